/-
  Comparisons; components; where one stands among some; equal neighbours dropped.
  No condition beyond those written in each theorem.
-/
import Derived.Test.YtmomigckcngegaaGreatDoorKA1
import Derived.Test.YtmomigckcngegaaGreatDoorFD
import Derived.Test.YtmomigckcngegaaGreatDoorKA2
import Derived.Deep.RegionHeld2
set_option linter.unusedSimpArgs false
set_option linter.unusedVariables false
set_option maxRecDepth 4000
open Go Sx Go.Proofs
namespace Kx
def cmpI (a b:Int):Int:=if a<b then -1 else if a > b then 1 else 0
theorem isnanI_ct (a:Int):Ct Tryz.prog 60 [i64 a] fun r outs=>r = .bool false∧outs = []:=by
 refine .det (De Tryz.func60 [] [] ?_)
 repeat' first|(refine S0 ?_;conv=>whnf)|exact T0|(refine T2 ?_ ?_)
 all_goals first
  | trivial
  | exact hb h
  | with_reducible rfl
  | with_reducible exact same_rfl
  | omega
  | ((simp;done))
theorem compare_i (a b:Int):Ct Tryz.prog 30 [i64 a,i64 b] fun r outs=>r=i64 (cmpI a b)∧outs = []:=by
 refine .det (De Tryz.func30 [] [] ?_)
 repeat' first|(refine S0 ?_;conv=>whnf)|exact T0|(with_reducible refine Br.ff ?_)|(refine Br.d (fun h=>?_) fun h=>?_)|(refine T2 ?_ ?_)|(refine K0 ?_)|(refine Met.by (g:=60) (isnanI_ct _) ?_;rintro q outs ⟨rfl,rfl⟩)
 all_goals first
  | trivial
  | exact hb h
  | with_reducible rfl
  | with_reducible exact same_rfl
  | omega
  | ((simp only [cmpI];repeat' split<;>omega))
  | ((simp [cmpI, *];done))
  | ((simp [cmpI, *];omega))
theorem isnanU_ct (a:Int):Ct Tryz.prog 110 [u64 a] fun r outs=>r = .bool false∧outs = []:=by
 refine .det (De Tryz.func110 [] [] ?_)
 repeat' first|(refine S0 ?_;conv=>whnf)|exact T0|(refine T2 ?_ ?_)
 all_goals first
  | trivial
  | exact hb h
  | with_reducible rfl
  | with_reducible exact same_rfl
  | omega
  | ((simp;done))
theorem compareU_ct (a b:Int):Ct Tryz.prog 66 [u64 a,u64 b] fun r outs=>r=i64 (cmpI a b)∧outs = []:=by
 refine .det (De Tryz.func66 [] [] ?_)
 repeat' first|(refine S0 ?_;conv=>whnf)|exact T0|(with_reducible refine Br.ff ?_)|(refine Br.d (fun h=>?_) fun h=>?_)|(refine T2 ?_ ?_)|(refine K0 ?_)|(refine Met.by (g:=110) (isnanU_ct _) ?_;rintro q outs ⟨rfl,rfl⟩)
 all_goals first
  | trivial
  | exact hb h
  | with_reducible rfl
  | with_reducible exact same_rfl
  | omega
  | ((simp only [cmpI];repeat' split<;>omega))
  | ((simp [cmpI, *];done))
  | ((simp [cmpI, *];omega))
def orL:List Int→Int
 | []=>0
 | x :: l=>if x≠0 then x else orL l
theorem orL_i (l:List Int) (hl:l.length≤1000000):Ct Tryz.prog 29 [ints l] fun r outs=>r=i64 (orL l)∧outs = []:=by
 refine .det (De Tryz.func29 [] [] ?_)
 repeat' first|(refine S0 ?_;conv=>whnf)
 refine CodeOK.loopW hΓ hm [] [] (by kernel_rfl) (α:=Nat) (fun i=>[(3,i64 0),(6,ints l),(7,i64 l.length),(8,i64 i)]) (fun i=>[]) 0 (fun i=>i≤l.length∧orL l=orL (l.drop i)) (fun i=>l.length - i) ?_ ?_
 ·refine Again.by 0 ⟨Nat.zero_le _,rfl⟩ ?_
  repeat' first|(refine S0 ?_;conv=>whnf)|(refine Vo ?_)|exact T0
 ·intro i ⟨h1,hv⟩
  repeat' first|(refine S0 ?_;conv=>whnf)|(refine Vo ?_)|exact T0|(refine W6 ?_)|(refine Br.d (fun h=>?_) fun h=>?_)|(refine Br.bnot ?_)|(refine T2 ?_ ?_)
  all_goals try simp only [Int.toNat_natCast] at *
  ·refine Again.by (i+1) ⟨⟨by omega,by rw [hv,drop_step l 0 i (by omega),orL,if_neg (not_not_intro h)]⟩,by omega⟩ ?_
   repeat' first|(refine S0 ?_;conv=>whnf)|(refine Vo ?_)|exact T0
  ·rw [hv,drop_step l 0 i (by omega),orL,if_pos h]
  ·rw [hv,List.drop_of_length_le (show l.length≤i by omega)];rfl
def orI (a b:Int):Int:=if a≠0 then a else b
theorem or_ct (a b:Int):Ct Tryz.prog 29 [.tab 1 2 fun i=>selC [[i64 a],[i64 b]] i] fun r outs=>r=i64 (orI a b)∧outs = []:=by
 have h:=(orL_i [a,b] (by simp)).arg (args:=[.tab 1 2 fun i=>selC [[i64 a],[i64 b]] i]) ⟨rfl,⟨rfl,fun i hi=>selC_get (fun x:Int=>[i64 x]) 0 (fun _ _=>rfl) [a,b] i hi⟩,trivial⟩
 refine h.mono ?_
 rintro r outs ⟨rfl,rfl⟩
 refine ⟨?_,rfl⟩
 congr 1
 simp only [orL,orI]
 (repeat' split)<;>simp_all
theorem orE_i (l:List Int) (hl:l.length≤1000000):Ct Tryz.prog 70 [ints l] fun r outs=>r=i64 (orL l)∧outs = []:=by
 refine .det (De Tryz.func70 [] [] ?_)
 repeat' first|(refine S0 ?_;conv=>whnf)
 refine CodeOK.loopW hΓ hm [] [] (by kernel_rfl) (α:=Nat) (fun i=>[(3,i64 0),(6,ints l),(7,i64 l.length),(8,i64 i)]) (fun i=>[]) 0 (fun i=>i≤l.length∧orL l=orL (l.drop i)) (fun i=>l.length - i) ?_ ?_
 ·refine Again.by 0 ⟨Nat.zero_le _,rfl⟩ ?_
  repeat' first|(refine S0 ?_;conv=>whnf)|(refine Vo ?_)|exact T0
 ·intro i ⟨h1,hv⟩
  repeat' first|(refine S0 ?_;conv=>whnf)|(refine Vo ?_)|exact T0|(refine W6 ?_)|(refine Br.d (fun h=>?_) fun h=>?_)|(refine Br.bnot ?_)|(refine T2 ?_ ?_)
  all_goals try simp only [Int.toNat_natCast] at *
  ·refine Again.by (i+1) ⟨⟨by omega,by rw [hv,drop_step l 0 i (by omega),orL,if_neg (not_not_intro h)]⟩,by omega⟩ ?_
   repeat' first|(refine S0 ?_;conv=>whnf)|(refine Vo ?_)|exact T0
  ·rw [hv,drop_step l 0 i (by omega),orL,if_pos h]
  ·rw [hv,List.drop_of_length_le (show l.length≤i by omega)];rfl
theorem orE_ct (a b:Int):Ct Tryz.prog 70 [.tab 1 2 fun i=>selC [[i64 a],[i64 b]] i] fun r outs=>r=i64 (orI a b)∧outs = []:=by
 have h:=(orE_i [a,b] (by simp)).arg (args:=[.tab 1 2 fun i=>selC [[i64 a],[i64 b]] i]) ⟨rfl,⟨rfl,fun i hi=>selC_get (fun x:Int=>[i64 x]) 0 (fun _ _=>rfl) [a,b] i hi⟩,trivial⟩
 refine h.mono ?_
 rintro r outs ⟨rfl,rfl⟩
 refine ⟨?_,rfl⟩
 congr 1
 simp only [orL,orI]
 (repeat' split)<;>simp_all
abbrev Cp:=Int × Int
def cpF (c:Cp):List D:=[i64 c.1,i64 c.2]
def cps (l:List Cp):D:=.tab 2 l.length fun i=>cpF (l.getD i (0,0))
def kys (K:List (List Cp)):D:=.tab 1 K.length fun i=>[cps (K.getD i [])]
def idxL (c:Cp):List Cp→Int→Int
 | [],_=>-1
 | x :: l,i=>if x=c then i else idxL c l (i+1)
theorem cindex_ct (l:List Cp) (c:Cp) (hl:l.length≤1000000):Ct Tryz.prog 74 [cps l,.agg (cpF c)] fun r outs=>r=i64 (idxL c l 0)∧outs = []:=by
 refine .det (De Tryz.func74 ord74 [] ?_)
 repeat' first|(refine S0 ?_;conv=>whnf)
 refine CodeOK.loopW hΓ hm ord74 [] (by kernel_rfl) (α:=Nat) (fun i=>[(0,cps l),(3,.loc 0 0),(7,i64 l.length),(8,i64 i)]) (fun i=>[(0,.var (cpF c))]) 1 (fun i=>i≤l.length∧idxL c l 0=idxL c (l.drop i) i) (fun i=>l.length - i) ?_ ?_
 ·refine Again.by 0 ⟨Nat.zero_le _,rfl⟩ ?_
  repeat' first|(refine S0 ?_;conv=>whnf)|(refine Vo ?_)|exact T0
 ·intro i ⟨hi,he⟩
  dsimp only at hi he ⊢
  repeat' first|(refine S0 ?_;conv=>whnf)|(refine Vo ?_)|exact T0|(refine W6 ?_)|(refine Br.d (fun h=>?_) fun h=>?_)|(refine T2 ?_ ?_)
  all_goals try simp only [Int.toNat_natCast] at *
  ·rw [he,drop_step l (0,0) i (by omega),idxL,if_pos (Prod.ext h.1.symm h.2.symm)]
  ·refine Again.by (i+1) ⟨⟨by omega,?_⟩,by omega⟩ ?_
   ·rw [he,drop_step l (0,0) i (by omega),idxL,if_neg fun e=>h ⟨by rw [e],by rw [e]⟩]
    congr 1
   repeat' first|(refine S0 ?_;conv=>whnf)|(refine Vo ?_)|exact T0
  ·rw [he,List.drop_of_length_le (show l.length≤i by omega)];rfl
theorem idxL_in (c:Cp):∀ (l:List Cp) (i:Int),c ∈ l→i≤idxL c l i∧idxL c l i<i+l.length
 | [],_,h=>by simp at h
 | x :: l,i,h=>by
   unfold idxL
   split
   ·simp only [List.length_cons];omega
   ·rename_i hne
    rcases List.mem_cons.1 h with rfl | h
    ·exact absurd rfl hne
    ·have:=idxL_in c l (i+1) h
     simp only [List.length_cons];omega
def cptN (l:List Cp):Nat→List Cp
 | 0=>[]
 | n+1=>if 1≤n∧l.getD n (0,0)=l.getD (n - 1) (0,0) then cptN l n else cptN l n ++ [l.getD n (0,0)]
def cpsO (l:List Cp):D:=.ftab 87 2 l.length fun i=>cpF (l.getD i (0,0))
theorem cptN_len (l:List Cp):∀ n,(cptN l n).length≤n
 | 0=>Nat.le_refl _
 | n+1=>by
   have:=cptN_len l n
   unfold cptN
   split
   ·omega
   ·simp;omega
theorem cptN_dup {l:List Cp} {n:Nat} (h1:1≤n) (h:l.getD n (0,0)=l.getD (n - 1) (0,0)):cptN l (n+1)=cptN l n:=by rw [cptN,if_pos ⟨h1,h⟩]
theorem cptN_new {l:List Cp} {n:Nat} (h:¬(1≤n∧l.getD n (0,0)=l.getD (n - 1) (0,0))):cptN l (n+1)=cptN l n ++ [l.getD n (0,0)]:=by rw [cptN,if_neg h]
theorem cptN_pos (l:List Cp):∀ n,1≤n→1≤(cptN l n).length
 | 1,_=>by simp [cptN]
 | n+2,_=>by
   have:=cptN_pos l (n+1) (by omega)
   rw [cptN]
   split
   ·exact this
   ·simp
theorem take_snoc (l:List Cp) (n:Nat) (h:n<l.length):l.take (n+1)=l.take n ++ [l.getD n (0,0)]:=by
 rw [List.getD_eq_getElem?_getD,List.getElem?_eq_getElem h,List.take_add_one,List.getElem?_eq_getElem h];rfl
def midL (l:List Cp) (i:Nat):List Cp:=cptN l i ++ l.drop (cptN l i).length
theorem midL_hi (l:List Cp) (i j:Nat) (h:(cptN l i).length≤j):(midL l i).getD j (0,0)=l.getD j (0,0):=by
 unfold midL
 rw [List.getD_eq_getElem?_getD,List.getElem?_append_right h,List.getElem?_drop,List.getD_eq_getElem?_getD]
 congr 2;omega
theorem midL_lo (l:List Cp) (i j:Nat) (h:j<(cptN l i).length):(midL l i).getD j (0,0)=(cptN l i).getD j (0,0):=by
 unfold midL
 rw [List.getD_eq_getElem?_getD,List.getElem?_append_left h,List.getD_eq_getElem?_getD]
theorem cpF_ite (c:Prop) [Decidable c] (a b:Cp):iteL c (cpF a) (cpF b)=cpF (if c then a else b):=by
 rw [iteL_same rfl];split<;>rfl
theorem compact_ct (l:List Cp) (hl:l.length≤1000000):Ct Tryz.prog 31 [cpsO l] fun r outs=>r=cpsO (cptN l l.length)∧outs = []:=by
 refine .det (.of_Wo (fn:=Tryz.f31) hΓ hm Tryz.func31 ord31 [8] (by kernel_rfl) (Step.out ?_))
 repeat' first|(refine S0 ?_;conv=>whnf)|(refine Vo ?_)|exact T0|(refine B1 ?_)|(refine Br.d (fun h=>?_) fun h=>?_)|(refine T2 ?_ ?_)|(refine Cp.mk fun q hq=>Step.out ?_)
 ·rw [List.eq_nil_of_length_eq_zero h];rfl
 ·have e:cptN l l.length=l:=by
   match l,h with
   | [],_=>rfl
   | [a],_=>rfl
   | _ :: _ :: _,h=>simp only [List.length_cons] at h;omega
  rw [e];exact ⟨rfl,fun _ _=>rfl⟩
 ·refine CodeOK.loopW hΓ hm ord31 [8] (by kernel_rfl) (α:=Nat) (fun k=>[(0,.rsl 0 2 0 l.length q),(3,i64 k)]) (fun k=>[(0,.blk 87 2 q l.length fun i=>cpF (l.getD i (0,0)))]) 1 (fun k=>(1≤k∧k≤l.length)∧cptN l k=l.take k) (fun k=>l.length - k) ?_ ?_
  ·refine Again.by 1 ⟨⟨Nat.le_refl _,by omega⟩,?_⟩ ?_
   ·rw [take_snoc l 0 (by omega)];rfl
   repeat' first|(refine S0 ?_;conv=>whnf)|(refine Vo ?_)|exact T0|(exact ⟨rfl,Nat.le_refl _,fun _ _=>rfl⟩)|(refine Vm ?_ ?_)
  ·intro k ⟨hk,he⟩
   dsimp only at hk he ⊢
   repeat' first|(refine S0 ?_;conv=>whnf)|(refine Vo ?_)|exact T0|(refine W6 ?_)|(refine B1 ?_)|(refine Br.d (fun h=>?_) fun h=>?_)|(refine T2 ?_ ?_)
   ·have hd:l.getD k (0,0)=l.getD (k - 1) (0,0):=by
     have e1:0+(k:Int).toNat=k:=by omega
     have e2:0+((k:Int) - 1).toNat=k - 1:=by omega
     rw [e1,e2] at h
     exact Prod.ext h.1 h.2
    have he1:cptN l (k+1)=l.take k:=by rw [cptN_dup hk.1 hd,he]
    refine CodeOK.cutW hΓ hm ord31 [] (by kernel_rfl) (α:=Unit) (fun z=>[(0,.rsl 0 2 0 l.length q),(3,i64 (cptN l l.length).length)]) (fun z=>[(0,.blk 87 2 q (cptN l l.length).length fun i=>cpF ((cptN l l.length).getD i (0,0)))]) 1 (fun z=>True) ?_ ?_
    ·repeat' first|(refine S0 ?_;conv=>whnf)
     refine CodeOK.loopW hΓ hm ord31 [] (by kernel_rfl) (α:=Nat) (fun j=>[(0,.rsl 0 2 0 l.length q),(3,i64 (cptN l (k+j)).length),(4,.rsl 0 2 k (l.length - k) (q - k)),(5,i64 j)]) (fun j=>[(0,.blk 87 2 q l.length fun i=>cpF ((midL l (k+j)).getD i (0,0)))]) 1 (fun j=>(1≤j∧k+j≤l.length)∧(cptN l (k+j)).length<k+j) (fun j=>l.length - k - j) ?_ ?_
     ·refine Again.by 1 ⟨⟨Nat.le_refl _,by omega⟩,?_⟩ ?_
      ·rw [he1,List.length_take];omega
      repeat' first|(refine S0 ?_;conv=>whnf)|(refine Vo ?_)|exact T0|(rw [he1,List.length_take];omega)|(exact ⟨rfl,Nat.le_refl _,fun i _=>by dsimp only;congr 1;unfold midL;rw [he1,List.length_take,Nat.min_eq_left (by omega),List.take_append_drop]⟩)|(refine Vm ?_ ?_)
     ·intro j ⟨hj,hlt⟩
      dsimp only at hj hlt ⊢
      have hp:=cptN_pos l (k+j) (by omega)
      have e0:k+(j+1)=k+j+1:=rfl
      have e1:k+(j:Int).toNat=k+j:=by omega
      have m1:=midL_hi l (k+j) (k+j) (by omega)
      have m2:=midL_hi l (k+j) (k+j - 1) (by omega)
      repeat' first|(refine S0 ?_;conv=>whnf)|(refine Vo ?_)|(refine W6 ?_)|(refine Br.d (fun h=>?_) fun h=>?_)|(refine Br.bnot ?_)
      ·have e2:k+((j:Int) - 1).toNat=k+j - 1:=by omega
       rw [e1,e2,m1,m2] at h
       have hd2:cptN l (k+j+1)=cptN l (k+j):=cptN_dup (by omega) (Prod.ext h.1 h.2)
       have hm2:midL l (k+j+1)=midL l (k+j):=by unfold midL;rw [hd2]
       refine Again.by (j+1) ⟨⟨⟨by omega,by omega⟩,by rw [e0,hd2];omega⟩,by omega⟩ ?_
       repeat' first|(refine S0 ?_;conv=>whnf)|(refine Vo ?_)|exact T0|(rw [e0,hd2];done)|(exact ⟨rfl,Nat.le_refl _,fun i _=>by dsimp only;rw [e0,hm2]⟩)|(refine Vm ?_ ?_)
      ·have e2:k+((j:Int) - 1).toNat=k+j - 1:=by omega
       rw [e1,e2,m1,m2] at h
       have hd2:cptN l (k+j+1)=cptN l (k+j) ++ [l.getD (k+j) (0,0)]:=cptN_new fun e=>h ⟨by rw [e.2],by rw [e.2]⟩
       have hl2:(cptN l (k+j+1)).length=(cptN l (k+j)).length+1:=by rw [hd2];simp
       refine Again.by (j+1) ⟨⟨⟨by omega,by omega⟩,by rw [e0,hl2];omega⟩,by omega⟩ ?_
       repeat' first|(refine S0 ?_;conv=>whnf)|(refine Vo ?_)|exact T0|(rw [e0,hl2];omega)|(refine Vm ?_ ?_)
       refine ⟨rfl,Nat.le_refl _,fun i hi=>?_⟩
       dsimp only
       refine (cpF_ite _ ((midL l (k+j)).getD (k+(j:Int).toNat) (0,0)) _).trans ?_
       congr 1
       rw [e0,e1,m1]
       split
       ·rename_i hi2
        have hi3:i=(cptN l (k+j)).length:=by omega
        rw [midL_lo _ _ _ (by rw [hl2];omega),hd2,hi3,List.getD_eq_getElem?_getD (l:=_ ++ _),List.getElem?_append_right (Nat.le_refl _),Nat.sub_self]
        rfl
       ·rename_i hi2
        by_cases hi3:i<(cptN l (k+j)).length
        ·rw [midL_lo _ _ _ hi3,midL_lo _ _ _ (by rw [hl2];omega),hd2,List.getD_eq_getElem?_getD (l:=_ ++ _),List.getElem?_append_left hi3,List.getD_eq_getElem?_getD]
        ·rw [midL_hi _ _ _ (by omega),midL_hi _ _ _ (by rw [hl2];omega)]
      ·have hkj:k+j=l.length:=by omega
       rw [hkj] at hlt hp
       refine Again.by () trivial ?_
       repeat' first|(refine S0 ?_;conv=>whnf)|(refine Vo ?_)|exact T0|(rw [hkj];done)|(exact ⟨rfl,cptN_len l _,fun i hi=>by dsimp only;rw [hkj,midL_lo _ _ _ hi]⟩)|(refine Vm ?_ ?_)
    ·intro _ _
     have hp2:=cptN_len l l.length
     repeat' first|(refine S0 ?_;conv=>whnf)|(refine Vo ?_)|exact T0|(refine B1 ?_)|(refine Br.d (fun h=>?_) fun h=>?_)|(refine T2 ?_ ?_)
     all_goals exact ⟨by simp,fun _ _=>rfl⟩
   ·refine Again.by (k+1) ⟨⟨⟨by omega,by omega⟩,?_⟩,by omega⟩ ?_
    ·have e1:0+(k:Int).toNat=k:=by omega
     have e2:0+((k:Int) - 1).toNat=k - 1:=by omega
     rw [e1,e2] at h
     rw [cptN_new fun e=>h ⟨by rw [e.2],by rw [e.2]⟩,he,take_snoc l k (by omega)]
    repeat' first|(refine S0 ?_;conv=>whnf)|(refine Vo ?_)|exact T0|(exact ⟨rfl,Nat.le_refl _,fun _ _=>rfl⟩)|(refine Vm ?_ ?_)
   ·have hk2:k=l.length:=by omega
    have e:cptN l l.length=l:=by rw [←hk2,he,hk2,List.take_length]
    rw [e]
    exact ⟨by omega,fun _ _=>rfl⟩
end Kx
open Go Sx Go.Proofs
namespace Kx
theorem getD_app {α:Type} (a b:List α) (j:Nat) (z:α):(a ++ b).getD j z=if j<a.length then a.getD j z else b.getD (j - a.length) z:=by
 simp only [List.getD_eq_getElem?_getD,List.getElem?_append]
 split<;>rfl
theorem getD_mem {α:Type} {l:List α} {i:Nat} {z:α} (h:i<l.length):l.getD i z ∈ l:=by
 rw [List.getD_eq_getElem?_getD,List.getElem?_eq_getElem h];exact List.getElem_mem h
def idx {α:Type} (p:α→Bool):List α→Int→Int
 | [],_=>-1
 | x :: l,k=>bif p x then k else idx p l (k+1)
theorem idx_step {α:Type} (p:α→Bool) (l:List α) (z:α) (i:Nat) (h:i<l.length):idx p (l.drop i) i=bif p (l.getD i z) then (i:Int) else idx p (l.drop (i+1)) ((i:Int)+1):=by
 rw [List.drop_eq_getElem_cons h]
 simp [idx,h]
theorem idx_any {α:Type} (p:α→Bool):∀ (l:List α) (k:Int),0≤k→decide (0≤idx p l k)=l.any p
 | [],k,_=>by simp [idx]
 | x :: l,k,hk=>by
   have ih:=idx_any p l (k+1) (by omega)
   rw [idx,List.any_cons]
   cases h:p x
   ·rw [cond_false,Bool.false_or];exact ih
   ·rw [cond_true,Bool.true_or];simpa using hk
theorem idxf_ct (l:List Int) (f:Nat) (caps:List D) (p:Int→Bool) (hl:l.length≤100000) (hc:immL caps=true) (hp:∀ x ∈ l,Ct Tryz.prog f (i64 x :: caps) fun r _=>r = .bool (p x)):Ct Tryz.prog 73 [ints l,.fn f caps] fun r outs=>r=i64 (idx p l 0)∧outs = []:=by
 refine .det (De Tryz.func73 [] [] ?_)
 repeat' first|(refine S0 ?_;conv=>whnf)|(refine adL_imm hc (Step.out ?_))
 refine CodeOK.loopW hΓ hm [] [] (by kernel_rfl) (α:=Nat) (fun i=>[(0,ints l),(1,.fn f caps),(7,i64 l.length),(8,i64 i)]) (fun i=>[]) 0 (fun i=>i≤l.length∧idx p l 0=idx p (l.drop i) i) (fun i=>l.length - i) ?_ ?_
 ·refine Again.by 0 ⟨Nat.zero_le _,rfl⟩ ?_
  repeat' first|(refine S0 ?_;conv=>whnf)|(refine Vo ?_)|(refine Vb ?_)|exact T0|(refine Cho.l (Step.out ?_))
 ·intro i hi
  repeat' first|(refine S0 ?_;conv=>whnf)|(refine Vo ?_)|exact T0|(refine W6 ?_)|(refine forceL_of (Step.out ?_))|(refine lesL_imm hc (Step.out ?_))|(refine Met.by (hp _ ?_) ?_;rotate_left;(rintro q outs rfl))|(refine Br.d (fun h=>?_) fun h=>?_)|(refine Bm (fun h=>?_) fun h=>?_)|(refine T2 ?_ ?_)|(refine K0 ?_)
  all_goals try simp only [Int.toNat_natCast] at *
  ·rw [hi.2,idx_step p l 0 i (by omega),h,cond_true]
  ·refine Again.by (i+1) ⟨⟨by omega,by rw [hi.2,idx_step p l 0 i (by omega),h,cond_false];rfl⟩,by omega⟩ ?_
   repeat' first|(refine S0 ?_;conv=>whnf)|(refine Vo ?_)|(refine Vb ?_)|exact T0|(refine Cho.l (Step.out ?_))
  ·exact getD_mem (by omega)
  ·have e:i=l.length:=by omega
   rw [hi.2,e,List.drop_length];rfl
theorem conf_ct (l:List Int) (f:Nat) (caps:List D) (p:Int→Bool) (hl:l.length≤100000) (hc:immL caps=true) (hp:∀ x ∈ l,Ct Tryz.prog f (i64 x :: caps) fun r _=>r = .bool (p x)):Ct Tryz.prog 39 [ints l,.fn f caps] fun r outs=>r = .bool (l.any p)∧outs = []:=by
 refine .det (De Tryz.func39 [] [] ?_)
 repeat' first|(refine S0 ?_;conv=>whnf)|exact T0|(refine adL_imm hc (Step.out ?_))|(refine lesL_imm hc (Step.out ?_))|(refine Met.by (idxf_ct l f caps p hl hc hp) ?_;rintro q outs ⟨rfl,rfl⟩)|(refine T2 ?_ ?_)|(refine K0 ?_)
 exact idx_any p l 0 (by omega)
end Kx
open Go Sx Go.Proofs
namespace Kx
open Go.Shelf Go.RowKit Go.Lib Go.Sort
def cfC (x y:Cp):Int:=if Lib.compareInt x.1 y.1≠0 then Lib.compareInt x.1 y.1 else Lib.compareInt x.2 y.2
theorem ltC (x y:Cp):ltOf cfC x y=decide (x.1<y.1∨(x.1=y.1∧x.2<y.2)):=by
 unfold ltOf cfC Lib.compareInt
 apply decide_eq_decide.2
 by_cases h1:x.1<y.1
 ·simp [h1]
 ·by_cases h2:y.1<x.1
  ·have h3:¬x.1=y.1:=by omega
   simp [h1,h2,h3]
  ·have h3:x.1=y.1:=by omega
   by_cases h4:x.2<y.2
   ·simp [h3,h4]
   ·by_cases h5:y.2<x.2<;>simp [h3,h4,h5]
theorem swoC:SWO (ltOf cfC) where
 irrefl x:=by rw [ltC];simp
 trans x y z h1 h2:=by rw [ltC] at *;simp at *;omega
 ntrans x y z h1 h2:=by rw [ltC] at *;simp at *;omega
theorem totC (x y:Cp) (h1:ltOf cfC x y=false) (h2:ltOf cfC y x=false):x=y:=by
 rw [ltC] at *;simp at *
 exact Prod.ext (by omega) (by omega)
set_option maxHeartbeats 4000000 in
set_option maxRecDepth 1000000 in
theorem orW (a b:Int) (bk:Nat) (W:World) (h0:W.cell? ⟨bk,0,none⟩=some (.int .i64 a)) (h1:W.cell? ⟨bk,1,none⟩=some (.int .i64 b)) :
 Calls Tryz.prog 29 #[.slice (some ⟨bk,0,none⟩) 2 2] W fun e w'=>e = .returned (.int .i64 (if a≠0 then a else b))∧w' = W:=by
 go_enter Tryz.func29,Tryz.ntmps29
 by_cases ha:a=0
 ·subst ha
  by_cases hb:b=0
  ·subst hb
   go_wp2
   refine wp_loop_rounds 3 ?_
   rw [rounds_succ]
   go_wp2
   rw [rounds_succ]
   go_wp2
   rw [rounds_succ]
   go_wp2
   go_ret
   exact ⟨rfl,rfl⟩
  ·have hb2:(b == 0)=false:=by simpa using hb
   go_wp2
   refine wp_loop_rounds 3 ?_
   rw [rounds_succ]
   go_wp2
   rw [rounds_succ]
   go_wp2
   go_ret
   exact ⟨by simp,rfl⟩
 ·have ha2:(a == 0)=false:=by simpa using ha
  go_wp2
  refine wp_loop_rounds 3 ?_
  rw [rounds_succ]
  go_wp2
  go_ret
  exact ⟨by simp [ha],rfl⟩
set_option maxHeartbeats 4000000 in
set_option maxRecDepth 1000000 in
theorem closeT (W:World) (o1 o2:Obj) (r s:Value) (t:Nat):((((W.alloc o1).alloc o2).alloc (.cells #[r,s] t)).drew).cell? ⟨W.heap.size+1+1,0,none⟩=some r∧((((W.alloc o1).alloc o2).alloc (.cells #[r,s] t)).drew).cell? ⟨W.heap.size+1+1,1,none⟩=some s:=by
 have h:((((W.alloc o1).alloc o2).alloc (.cells #[r,s] t)).drew).heap[W.heap.size+1+1]? = some (.cells #[r,s] t):=by
  show (((W.heap.push o1).push o2).push (.cells #[r,s] t))[W.heap.size+1+1]? = _
  rw [Array.getElem?_push,if_pos (by simp)]
 constructor
 ·simp only [World.cell?,h];rfl
 ·simp only [World.cell?,h];rfl
def S4y (N:Nat) (a b c d:Value) (w:World):Prop:=w.cell? ⟨N,0,none⟩=some a∧w.cell? ⟨N,1,none⟩=some b∧w.cell? ⟨N+1,0,none⟩=some c∧w.cell? ⟨N+1,1,none⟩=some d
theorem s4_of {w:World} {N:Nat} {a b c d:Value} {t:Nat} (h1:w.heap[N]? = some (.cells #[a,b] t)) (h2:w.heap[N+1]? = some (.cells #[c,d] t)):S4y N a b c d w:=by
 refine ⟨?_,?_,?_,?_⟩
 ·simp only [World.cell?,h1];rfl
 ·simp only [World.cell?,h1];rfl
 ·simp only [World.cell?,h2];rfl
 ·simp only [World.cell?,h2];rfl
theorem s4_a (W:World) (a b c d:Value) (t:Nat):S4y W.heap.size a b c d (((W.alloc (.cells #[a,b] t)).alloc (.cells #[c,d] t)).drew):=by
 refine s4_of (t:=t) ?_ ?_
 ·show ((W.heap.push (.cells #[a,b] t)).push (.cells #[c,d] t))[W.heap.size]? = _
  rw [Array.getElem?_push,if_neg (by simp),Array.getElem?_push,if_pos rfl]
 ·show ((W.heap.push (.cells #[a,b] t)).push (.cells #[c,d] t))[W.heap.size+1]? = _
  rw [Array.getElem?_push,if_pos (by simp)]
theorem s4_b (W:World) (a b c d:Value) (t:Nat) (o:Obj):S4y W.heap.size a b c d ((((W.alloc (.cells #[a,b] t)).alloc (.cells #[c,d] t)).alloc o).drew):=by
 refine s4_of (t:=t) ?_ ?_
 ·show (((W.heap.push (.cells #[a,b] t)).push (.cells #[c,d] t)).push o)[W.heap.size]? = _
  rw [Array.getElem?_push,if_neg (by simp;omega),Array.getElem?_push,if_neg (by simp),Array.getElem?_push,if_pos rfl]
 ·show (((W.heap.push (.cells #[a,b] t)).push (.cells #[c,d] t)).push o)[W.heap.size+1]? = _
  rw [Array.getElem?_push,if_neg (by simp),Array.getElem?_push,if_pos (by simp)]
theorem growT (W:World) (o1 o2 o3:Obj):(((W.alloc o1).alloc o2).alloc o3).drew=grow (W.drewN 1) #[o1,o2,o3]:=by
 rw [alloc_eq_grow,alloc_eq_grow,alloc_eq_grow,grow_grow,grow_grow];rfl
set_option maxHeartbeats 4000000 in
set_option maxRecDepth 1000000 in
theorem closeC0 (a b c d r s:Int) (W:World) (c1:∀ W,Calls Tryz.prog 30 #[.int .i64 a,.int .i64 c] W fun e w'=>e = .returned (.int .i64 r)∧w' = W) (c2:∀ W,Calls Tryz.prog 30 #[.int .i64 b,.int .i64 d] W fun e w'=>e = .returned (.int .i64 s)∧w' = W) :
 Calls Tryz.prog 28 #[.agg #[.int .i64 a,.int .i64 b],.agg #[.int .i64 c,.int .i64 d]] W fun e w'=>e = .returned (.int .i64 (if r≠0 then r else s))∧∃ q os',w' = grow (W.drewN q) os':=by
 have mixed:=hm
 have hO:=orW r s _ _ (closeT W (.cells #[.int .i64 a,.int .i64 b] 87) (.cells #[.int .i64 c,.int .i64 d] 87) (.int .i64 r) (.int .i64 s) 3).1 (closeT W (.cells #[.int .i64 a,.int .i64 b] 87) (.cells #[.int .i64 c,.int .i64 d] 87) (.int .i64 r) (.int .i64 s) 3).2
 generalize (if r≠0 then r else s)=u at hO ⊢
 go_enter Tryz.func28,Tryz.ntmps28
 go_wp2
 go_region_held2 (fun w'=>w'.cell? ⟨W.heap.size,0,none⟩=some (.int .i64 a)∧w'.cell? ⟨W.heap.size,1,none⟩=some (.int .i64 b)∧w'.cell? ⟨W.heap.size+1,0,none⟩=some (.int .i64 c)∧w'.cell? ⟨W.heap.size+1,1,none⟩=some (.int .i64 d))
  (first | exact s4_a _ _ _ _ _ _ | exact s4_b _ _ _ _ _ _ _ | exact (s4_a _ _ _ _ _ _ :) | exact (s4_b _ _ _ _ _ _ _ :))
  (first
  | (go_at_call_of 30 (Value.int .i64 a);refine (c1 _).mono ?_;rintro e w' ⟨rfl,rfl⟩)
  | (go_at_call_of 30 (Value.int .i64 b);refine (c2 _).mono ?_;rintro e w' ⟨rfl,rfl⟩)
  | (go_at_call 29;refine hO.mono ?_;rintro e w' ⟨rfl,rfl⟩))
 go_wp2
 go_ret
 exact ⟨rfl,1,_,growT W _ _ _⟩
set_option maxHeartbeats 4000000 in
set_option maxRecDepth 1000000 in
theorem closeU0 (a b c d r s:Int) (W:World) (c1:∀ W,Calls Tryz.prog 30 #[.int .i64 a,.int .i64 c] W fun e w'=>e = .returned (.int .i64 r)∧w' = W) (c2:∀ W,Calls Tryz.prog 30 #[.int .i64 b,.int .i64 d] W fun e w'=>e = .returned (.int .i64 s)∧w' = W) :
 Calls Tryz.prog 45 #[.agg #[.int .i64 a,.int .i64 b],.agg #[.int .i64 c,.int .i64 d]] W fun e w'=>e = .returned (.int .i64 (if r≠0 then r else s))∧∃ q os',w' = grow (W.drewN q) os':=by
 have mixed:=hm
 have hO:=orW r s _ _ (closeT W (.cells #[.int .i64 a,.int .i64 b] 102) (.cells #[.int .i64 c,.int .i64 d] 102) (.int .i64 r) (.int .i64 s) 3).1 (closeT W (.cells #[.int .i64 a,.int .i64 b] 102) (.cells #[.int .i64 c,.int .i64 d] 102) (.int .i64 r) (.int .i64 s) 3).2
 generalize (if r≠0 then r else s)=u at hO ⊢
 go_enter Tryz.func45,Tryz.ntmps45
 go_wp2
 go_region_held2 (fun w'=>w'.cell? ⟨W.heap.size,0,none⟩=some (.int .i64 a)∧w'.cell? ⟨W.heap.size,1,none⟩=some (.int .i64 b)∧w'.cell? ⟨W.heap.size+1,0,none⟩=some (.int .i64 c)∧w'.cell? ⟨W.heap.size+1,1,none⟩=some (.int .i64 d))
  (first | exact s4_a _ _ _ _ _ _ | exact s4_b _ _ _ _ _ _ _ | exact (s4_a _ _ _ _ _ _ :) | exact (s4_b _ _ _ _ _ _ _ :))
  (first
  | (go_at_call_of 30 (Value.int .i64 a);refine (c1 _).mono ?_;rintro e w' ⟨rfl,rfl⟩)
  | (go_at_call_of 30 (Value.int .i64 b);refine (c2 _).mono ?_;rintro e w' ⟨rfl,rfl⟩)
  | (go_at_call 29;refine hO.mono ?_;rintro e w' ⟨rfl,rfl⟩))
 go_wp2
 go_ret
 exact ⟨rfl,1,_,growT W _ _ _⟩
theorem closeC (x y:Cp) (W:World):Calls Tryz.prog 28 #[.agg (prV x).toArray,.agg (prV y).toArray] W fun e w'=>e = .returned (.int .i64 (cfC x y))∧∃ q os',w' = grow (W.drewN q) os' :=
 closeC0 x.1 x.2 y.1 y.2 _ _ W (AnyG.cmp_Compare_int Go.Proofs.Kx.cmpI x.1 y.1) (AnyG.cmp_Compare_int Go.Proofs.Kx.cmpI x.2 y.2)
theorem closeU (x y:Cp) (W:World):Calls Tryz.prog 45 #[.agg (prV x).toArray,.agg (prV y).toArray] W fun e w'=>e = .returned (.int .i64 (cfC x y))∧∃ q os',w' = grow (W.drewN q) os' :=
 closeU0 x.1 x.2 y.1 y.2 _ _ W (AnyG.cmp_Compare_int Go.Proofs.Kx.cmpI x.1 y.1) (AnyG.cmp_Compare_int Go.Proofs.Kx.cmpI x.2 y.2)
def srtL (l:List Cp):List Cp:=l.mergeSort fun x y=>!(ltOf cfC) y x
theorem srtL_len (l:List Cp):(srtL l).length=l.length:=List.length_mergeSort l
theorem sortC_law (l:List Cp) (hl:l.length≤1000000) (blk cap:Nat) (w:World) (hH:HoldsK prV 2 w blk 0 l.toArray) (hb:blk<w.heap.size) :
 Calls Tryz.prog 27 #[.slice (some ⟨blk,0,none⟩) l.length cap,.func (.func 28) #[] #[]] w fun e w'=>e = .returned (.tuple #[])∧∃ n os,w' = sortWorldK prV 2 w blk 0 n (srtL l).toArray os:=by
 have eg:∀ args w,(callFunc 28 args).run Tryz.prog w = .ok (.enter 28 args) w:=enters_of Tryz.func28 (by kernel_rfl) rfl
 exact AnyQ.slices_SortFunc_total Go.Proofs.Kx.sortC 2 (fun w=>Tryz.isAgg87 w) (fun w=>Tryz.sizeOf87 w) prV (fun _=>rfl) (fun x v hv=>by simp [prV] at hv;rcases hv with rfl | rfl<;>rfl) cfC swoC 28 #[] blk 0 cap l.toArray w eg (fun _ _ _ _ x y=>closeC x y _) hH hb (by simp;omega) totC
theorem sortC_none (p:Option Addr) (cap:Nat) (w:World):Calls Tryz.prog 27 #[.slice p 0 cap,.func (.func 28) #[] #[]] w fun e w'=>e = .returned (.tuple #[])∧w' = w :=
 AnyF.slices_SortFunc_none (P:=Tryz.prog) (ρ:=Go.Proofs.Kx.sortC_ren) { Go.Proofs.Kx.sortC with } p cap (.func (.func 28) #[] #[]) w
theorem sortU_law (l:List Cp) (hl:l.length≤1000000) (blk cap:Nat) (w:World) (hH:HoldsK prV 2 w blk 0 l.toArray) (hb:blk<w.heap.size) :
 Calls Tryz.prog 44 #[.slice (some ⟨blk,0,none⟩) l.length cap,.func (.func 45) #[] #[]] w fun e w'=>e = .returned (.tuple #[])∧∃ n os,w' = sortWorldK prV 2 w blk 0 n (srtL l).toArray os:=by
 have eg:∀ args w,(callFunc 45 args).run Tryz.prog w = .ok (.enter 45 args) w:=enters_of Tryz.func45 (by kernel_rfl) rfl
 exact AnyQ.slices_SortFunc_total Go.Proofs.Kx.sortU 2 (fun w=>Tryz.isAgg102 w) (fun w=>Tryz.sizeOf102 w) prV (fun _=>rfl) (fun x v hv=>by simp [prV] at hv;rcases hv with rfl | rfl<;>rfl) cfC swoC 45 #[] blk 0 cap l.toArray w eg (fun _ _ _ _ x y=>closeU x y _) hH hb (by simp;omega) totC
theorem sortU_none (p:Option Addr) (cap:Nat) (w:World):Calls Tryz.prog 44 #[.slice p 0 cap,.func (.func 45) #[] #[]] w fun e w'=>e = .returned (.tuple #[])∧w' = w :=
 AnyF.slices_SortFunc_none (P:=Tryz.prog) (ρ:=Go.Proofs.Kx.sortU_ren) { Go.Proofs.Kx.sortU with } p cap (.func (.func 45) #[] #[]) w
def flatN (K:List (List Cp)):Nat→List Cp
 | 0=>[]
 | n+1=>flatN K n ++ K.getD n []
theorem cps_app (a b:List Cp) (f:Nat→List D) (hf:∀ i,f i=cpF (b.getD i (0,0))):a.length+b.length=(a ++ b).length∧∀ i,i<(a ++ b).length→iteL (i<a.length) (cpF (a.getD i (0,0))) (f (i - a.length))=cpF ((a ++ b).getD i (0,0)) :=
 ⟨by simp,fun i _=>by
  rw [hf,cpF_ite]
  congr 1
  simp only [List.getD_eq_getElem?_getD]
  split
  ·rename_i h;rw [List.getElem?_append_left h]
  ·rename_i h;rw [List.getElem?_append_right (by omega)]⟩
def atL (K:List (List Cp)):List Cp:=cptN (srtL (flatN K K.length)) (srtL (flatN K K.length)).length
theorem flatN_len (K:List (List Cp)) (h:∀ i,i<K.length→(K.getD i []).length≤100):∀ n,n≤K.length→(flatN K n).length≤100*n
 | 0,_=>by simp [flatN]
 | n+1,hn=>by
   have:=flatN_len K h n (by omega)
   have h2:=h n (by omega)
   rw [flatN,List.length_append];omega
theorem atoms_ct (K:List (List Cp)) (hK:K.length≤100) (h:∀ i,i<K.length→(K.getD i []).length≤100):Ct Tryz.prog 10 [kys K] fun r outs=>r=cps (atL K)∧outs = []:=by
 have hfl:=flatN_len K h
 unfold atL
 refine .det (De Tryz.func10 [] [] ?_)
 repeat' first|(refine S0 ?_;conv=>whnf)
 refine CodeOK.loopW hΓ hm [] [] (by kernel_rfl) (α:=Nat) (fun i=>[(3,.own 0),(6,kys K),(7,i64 K.length),(8,i64 i)]) (fun i=>[(0,.arr 87 2 (flatN K i).length fun j=>cpF ((flatN K i).getD j (0,0)))]) 1 (fun i=>i≤K.length) (fun i=>K.length - i) ?_ ?_
 ·refine Again.by 0 (Nat.zero_le _) ?_
  repeat' first|(refine S0 ?_;conv=>whnf)|(refine Vo ?_)|exact T0|(rfl)|(refine Vm ?_ ?_)
 ·intro i hi
  try dsimp only at hi ⊢
  have h1:=hfl i hi
  have h2:i<K.length→(K.getD ((i:Nat):Int).toNat []).length≤100:=fun hi=>by rw [Int.toNat_natCast];exact h i hi
  have hs:(srtL (flatN K i)).length≤1000000:=by rw [srtL_len];omega
  repeat' first|(refine CallOK.sortP (flatN K i) (srtL (flatN K i)) ⟨Tryz.f27,Tryz.func27,by decide,by decide⟩ rfl ⟨rfl,fun _ _=>rfl⟩ (srtL_len _) (fun _ p cap w=>sortC_none p cap w) (fun _ blk cap w hH hb=>sortC_law _ (by omega) blk cap w hH hb) ?_)|(refine S0 ?_;conv=>whnf)|(refine Vo ?_)|(refine Vb ?_)|exact T0|(refine W6 ?_)|(refine Br.d (fun h=>?_) fun h=>?_)|(refine T2 ?_ ?_)|(refine CallOK.gv (g:=31) (Step.out ?_))|(refine Met.by (g:=31) (compact_ct _ (by assumption)) ?_;rintro q outs ⟨rfl,rfl⟩)
  ·refine Again.by (i+1) ⟨by omega,by omega⟩ ?_
   repeat' first|(refine S0 ?_;conv=>whnf)|(refine Vo ?_)|exact T0|(exact cps_app (flatN K i) (K.getD i []) _ (fun _=>rfl))|(refine Vm ?_ ?_)
  ·obtain rfl:i=K.length:=by omega
   exact ⟨rfl,fun _ _=>rfl⟩
theorem cptN_in (l:List Cp):∀ n j,j<n→l.getD j (0,0) ∈ cptN l n
 | 0,_,h=>by omega
 | n+1,j,h=>by
   unfold cptN
   split
   ·rename_i hd
    by_cases e:j=n
    ·rw [e,hd.2];exact cptN_in l n (n - 1) (by omega)
    ·exact cptN_in l n j (by omega)
   ·by_cases e:j=n
    ·rw [e];simp
    ·exact List.mem_append_left _ (cptN_in l n j (by omega))
theorem cptN_all {l:List Cp} {c:Cp} (h:c ∈ l):c ∈ cptN l l.length:=by
 obtain ⟨j,hj,rfl⟩:=List.getElem_of_mem h
 have:=cptN_in l l.length j hj
 rwa [List.getD_eq_getElem?_getD,List.getElem?_eq_getElem hj] at this
theorem flatN_in (K:List (List Cp)):∀ n i,i<n→∀ c ∈ K.getD i [],c ∈ flatN K n
 | 0,_,h,_,_=>by omega
 | n+1,i,h,c,hc=>by
   rw [flatN]
   by_cases e:i=n
   ·rw [e] at hc;exact List.mem_append_right _ hc
   ·exact List.mem_append_left _ (flatN_in K n i (by omega) c hc)
theorem atL_in (K:List (List Cp)) (i:Nat) (hi:i<K.length) (c:Cp) (hc:c ∈ K.getD i []):c ∈ atL K :=
 cptN_all ((List.mem_mergeSort).2 (flatN_in K _ i hi c hc))
theorem atL_len (K:List (List Cp)) (m:Nat) (h:∀ i,i<K.length→(K.getD i []).length≤m):(atL K).length≤m*K.length:=by
 have h1:=cptN_len (srtL (flatN K K.length)) (srtL (flatN K K.length)).length
 rw [srtL_len] at h1
 have:∀ n,n≤K.length→(flatN K n).length≤m*n:=fun n=>by
  induction n with
  | zero=>intro _;simp [flatN]
  | succ n ih =>
    intro hn
    have e1:=ih (by omega)
    have e2:=h n (by omega)
    rw [flatN,List.length_append,Nat.mul_succ];omega
 have h3:=this K.length (Nat.le_refl _)
 unfold atL
 rw [srtL_len]
 omega
end Kx
open Go Sx Go.Proofs
namespace Kx
def setC (at_:List Cp) (v:Int) (c:Cp):Int:=bitI .or .i64 v (IntKind.i64.wrap (1*2 ^ min (idxL c at_ 0).toNat IntKind.i64.bits))
def setV (at_:List Cp) (k:List Cp):Int:=k.foldl (setC at_) 0
def setsL (K:List (List Cp)):List Int:=K.map (setV (atL K))
theorem sets_ct (K:List (List Cp)) (hK:K.length≤100) (h:∀ i,i<K.length→(K.getD i []).length≤100):Ct Tryz.prog 41 [kys K] fun r outs=>r=ints (setsL K)∧outs = []:=by
 have hat:(atL K).length≤1000000:=by have:=atL_len K 100 h;omega
 have hin:=atL_in K
 have hA:=atoms_ct K hK h
 have hkl:=h
 have hget:∀ j,j<K.length→(setsL K).getD j 0=setV (atL K) (K.getD j []):=fun j hj=>by
  simp only [setsL,List.getD_eq_getElem?_getD,List.getElem?_map,List.getElem?_eq_getElem hj];rfl
 have hsl:(setsL K).length=K.length:=by simp [setsL]
 generalize setsL K=S at *
 generalize atL K=A at *
 refine .det (De Tryz.func41 ord41 [] ?_)
 repeat' first|(refine S0 ?_;conv=>whnf)|(refine Vb ?_)|(refine Met.by hA ?_;rintro q outs ⟨rfl,rfl⟩)|(refine K0 ?_)
 refine CodeOK.loopW hΓ hm ord41 [] (by kernel_rfl) (α:=Nat) (fun i=>[(3,cps A),(4,.own 0),(14,kys K),(15,i64 K.length),(16,i64 i)]) (fun i=>[(0,.arr 3 1 K.length fun j=>[i64 (if j<i then setV A (K.getD j []) else 0)])]) 1 (fun i=>i≤K.length) (fun i=>K.length - i) ?_ ?_
 ·refine Again.by 0 (Nat.zero_le _) ?_
  repeat' first|(refine S0 ?_;conv=>whnf)|(refine Vo ?_)|exact T0|(exact ⟨rfl,fun _ _=>rfl⟩)|(refine Vm ?_ ?_)
 ·intro i hi
  try dsimp only at hi ⊢
  repeat' first|(refine S0 ?_;conv=>whnf)|(refine Vo ?_)|exact T0|(refine Br.d (fun h=>?_) fun h=>?_)|(refine T2 ?_ ?_)
  ·refine CodeOK.loopW hΓ hm ord41 [] (by kernel_rfl) (α:=Nat × Int) (fun z=>[(3,cps A),(4,.own 0),(5,i64 i),(14,kys K),(15,i64 K.length),(16,i64 i),(22,cps (K.getD i [])),(23,i64 (K.getD i []).length),(24,i64 z.1)]) (fun z=>[(0,.arr 3 1 K.length fun j=>[i64 (if j<i then setV A (K.getD j []) else if j=i then z.2 else 0)])]) 1 (fun z=>z.1≤(K.getD i []).length∧((K.getD i []).drop z.1).foldl (setC A) z.2=setV A (K.getD i [])) (fun z=>(K.getD i []).length - z.1) ?_ ?_
   ·refine Again.by (0,0) ⟨Nat.zero_le _,rfl⟩ ?_
    repeat' first|(refine S0 ?_;conv=>whnf)|(refine Vo ?_)|exact T0|(rfl)|(refine Vm ?_ ?_)
    all_goals first
     | exact ⟨rfl,fun _ _=>rfl⟩
     | (refine ⟨rfl,fun j hj=>?_⟩
        dsimp only
        congr 2
        by_cases h1:j<i
        ·rw [if_pos h1,if_pos h1]
        ·rw [if_neg h1,if_neg h1];split<;>rfl)
   ·intro ⟨p,v⟩ ⟨hp,hv⟩
    dsimp only at hp hv ⊢
    have hiK:i<K.length:=by omega
    have hix:p<(K.getD i []).length→0≤idxL ((K.getD i []).getD (p:Int).toNat (0,0)) A 0:=fun hp=>by
     rw [Int.toNat_natCast]
     exact (idxL_in _ A 0 (hin i hiK _ (getD_in hp))).1
    have hki:=hkl i hiK
    repeat' first|(refine S0 ?_;conv=>whnf)|(refine Vo ?_)|(refine W6 ?_)|(refine Wr.raw ?_)|(refine Br.d (fun h=>?_) fun h=>?_)|(refine K1 ?_)|(refine Met.by (g:=74) (cindex_ct _ _ (by assumption)) ?_;rintro q outs ⟨rfl,rfl⟩)
    ·have hpl:p<(K.getD i []).length:=by omega
     refine Again.by (p+1,setC A v ((K.getD i []).getD p (0,0))) ⟨⟨by dsimp only;omega,?_⟩,by dsimp only;omega⟩ ?_
     ·rw [drop_step _ (0,0) p hpl] at hv
      exact hv
     repeat' first|(refine S0 ?_;conv=>whnf)|(refine Vo ?_)|exact T0|(refine Vm ?_ ?_)
     all_goals first
      | exact ⟨rfl,fun _ _=>rfl⟩
      | (refine ⟨rfl,fun j hj=>?_⟩
         dsimp only
         by_cases e:j=i
         ·subst e
          refine (iteL_same rfl).trans ?_
          rw [if_pos (by omega),if_neg (Nat.lt_irrefl _),if_pos rfl]
          show [i64 (bitI .or .i64 (if j<j then _ else if j=j then v else 0) _)]=_
          rw [if_neg (Nat.lt_irrefl _),if_pos rfl]
          rfl
         ·refine (iteL_same rfl).trans ?_
          rw [if_neg (by omega)]
          congr 2
          by_cases h1:j<i
          ·rw [if_pos h1,if_pos h1]
          ·rw [if_neg h1,if_neg h1,if_neg e,if_neg e])
    ·have hpl:p=(K.getD i []).length:=by omega
     rw [hpl,List.drop_length] at hv
     refine Again.by (i+1) ⟨by omega,by omega⟩ ?_
     repeat' first|(refine S0 ?_;conv=>whnf)|(refine Vo ?_)|exact T0|(refine Vm ?_ ?_)
     all_goals first
      | exact ⟨rfl,fun _ _=>rfl⟩
      | (refine ⟨rfl,fun j hj=>?_⟩
         dsimp only
         congr 2
         by_cases h1:j<i
         ·rw [if_pos h1,if_pos (by omega)]
         ·by_cases e:j=i
          ·subst e;rw [if_neg h1,if_pos rfl,if_pos (by omega)];exact hv
          ·rw [if_neg h1,if_neg e,if_neg (by omega)])
  ·have hiK:i=K.length:=by omega
   refine ⟨hsl.symm,fun j hj=>?_⟩
   dsimp only
   rw [if_pos (by omega),hget j (by omega)]
def shrI (m:Int) (i:Nat):Int:=m.fdiv (2 ^ min i IntKind.i64.bits)
def bitB (m:Int) (i:Nat):Bool:=decide (bitI .and .i64 (shrI m i) 1=1)
def bitsN (m:Int):Nat→List Int
 | 0=>[]
 | n+1=>if bitB m n=true then bitsN m n ++ [(n:Int)] else bitsN m n
theorem bits_end:∀ m<256,∀ i<9,shrI (m:Nat) i≤0→bitsN (m:Nat) i=bitsN (m:Nat) 8:=by decide +kernel
theorem bits_go:∀ m<256,∀ i<9,0<shrI (m:Nat) i→i<8:=by decide +kernel
theorem plan_ct (m:Nat) (a b:Int) (h1:m<256):Ct Tryz.prog 42 [i64 m,i64 a,i64 b] fun r outs=>r = .agg [ints (bitsN m 8),i64 a,i64 b]∧outs = []:=by
 have he:=bits_end m h1
 have hgo:=bits_go m h1
 refine .det (De Tryz.func42 [] [] ?_)
 repeat' first|(refine S0 ?_;conv=>whnf)
 refine CodeOK.loopW hΓ hm [] [] (by kernel_rfl) (α:=Nat) (fun i=>[(0,i64 m),(6,.loc 0 0),(7,.loc 1 0),(8,i64 i)]) (fun i=>[(0,.var [.nil,i64 0,i64 0]),(1,.var [.own 2,i64 a,i64 b]),(2,.arr 3 1 (bitsN m i).length fun j=>[i64 ((bitsN m i).getD j 0)])]) 3 (fun i=>i≤8) (fun i=>9 - i) ?_ ?_
 ·refine Again.by 0 (Nat.zero_le _) ?_
  repeat' first|(refine S0 ?_;conv=>whnf)|(refine Vo ?_)|exact T0|(rfl)|(refine Vm ?_ ?_)
 ·intro i hi
  try dsimp only at hi ⊢
  have hbl:∀ n,(bitsN (m:Int) n).length≤n:=fun n=>by
   induction n with
   | zero=>simp [bitsN]
   | succ n ih =>
     rw [bitsN]
     split
     ·simp;omega
     ·omega
  have hbi:=hbl i
  repeat' first|(refine S0 ?_;conv=>whnf)|(refine Vo ?_)|(refine Vb ?_)|exact T0|(refine W6 ?_)|(refine Br.d (fun h=>?_) fun h=>?_)|(refine T2 ?_ ?_)
  ·have hi8:=hgo i (by omega) (by assumption)
   have hb:bitB m i=true:=decide_eq_true (by assumption)
   refine Again.by (i+1) ⟨by omega,by omega⟩ ?_
   rw [bitsN,if_pos hb]
   repeat' first|(refine S0 ?_;conv=>whnf)|(refine Vo ?_)|exact T0|(exact app_one (fun x:Int=>[i64 x]) 0 (fun _ _=>rfl) _ _ rfl)|(refine Vm ?_ ?_)
  ·have hi8:=hgo i (by omega) (by assumption)
   have hb:¬bitB m i=true:=fun e=>by have:=of_decide_eq_true e;contradiction
   refine Again.by (i+1) ⟨by omega,by omega⟩ ?_
   rw [bitsN,if_neg hb]
   repeat' first|(refine S0 ?_;conv=>whnf)|(refine Vo ?_)|exact T0
  ·rw [he i (by omega) (Int.not_lt.1 (by assumption))]
   exact ⟨rfl,fun _ _=>rfl⟩
end Kx
