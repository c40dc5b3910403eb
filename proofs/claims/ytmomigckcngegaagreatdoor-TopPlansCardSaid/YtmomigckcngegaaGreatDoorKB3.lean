/-
  The deck's keys; lines of records.
  No condition beyond those written in each theorem.
-/
import Derived.Test.YtmomigckcngegaaGreatDoorKB2
import Derived.Test.YtmomigckcngegaaGreatDoorKA8
import Derived.Test.YtmomigckcngegaaGreatDoorKA6
set_option linter.unusedSimpArgs false
set_option linter.unusedVariables false
set_option maxRecDepth 4000
open Go Sx Go.Proofs
namespace Kx
def U64 (x:Int):Prop:=0≤x∧x≤18446744073709551615
theorem key_ct (d:Dk):Ct Tryz.prog 8 [d.b] fun r outs=>∃ (k:Int × Int) (d' : Dk),(U64 k.1∧U64 k.2)∧r = .agg [u64 k.1,u64 k.2]∧outs = [Dk.b d']:=by
 refine .some2 (De Tryz.func8 [] [] ?_)
 repeat' first|(refine S0 ?_;conv=>whnf)|(refine CallOK.io1 (g:=26) (Step.out ?_))|(refine Met.by (g:=26) (word_ct _) ?_;rintro q outs ⟨x,d,hx,rfl,rfl⟩)
 rename_i dd x0 d1 h0
 refine Lf2.by (x0,x) d ⟨h0,hx⟩ ?_
 repeat' first|(refine S0 ?_;conv=>whnf)|exact T0|exact T1|(refine T2 ?_ ?_)
end Kx
open Go Sx Go.Proofs
namespace Kx
def Pm.z:Pm:=⟨0,0,0⟩
def PsL (n:Nat) (l:List Pm):Prop:=∀ i,i<l.length→(l.getD i Pm.z).ok∧(l.getD i Pm.z).s<n∧(l.getD i Pm.z).s≠i
theorem PsL.snoc {n:Nat} {l:List Pm} (h:PsL n l) (p:Pm) (h1:p.ok) (h2:p.s<n) (h3:p.s≠l.length):PsL n (l ++ [p]):=fun i hi=>by
 rw [List.length_append,List.length_cons,List.length_nil] at hi
 by_cases e:i<l.length
 ·rw [List.getD_eq_getElem?_getD,List.getElem?_append_left e,←List.getD_eq_getElem?_getD]
  exact h i e
 ·have e:i=l.length:=by omega
  subst e
  rw [List.getD_eq_getElem?_getD,List.getElem?_append_right (Nat.le_refl _),Nat.sub_self]
  exact ⟨h1,h2,h3⟩
end Kx
open Go Sx Go.Proofs
namespace Kx
theorem mod3_ct (k:Int) (hk:0≤k∧k≤2):Ct Tryz.prog 151 [i64 k,i64 3] fun r outs=>r=i64 k∧outs = []:=by
 refine .det (De Tryz.func151 [] [] ?_)
 have e:k.tmod 3=k:=by rw [Int.tmod_eq_emod_of_nonneg (by omega)];omega
 have e2:(k.tmod 3+3).tmod 3=k:=by rw [e,Int.tmod_eq_emod_of_nonneg (by omega)];omega
 repeat' first|(refine S0 ?_;conv=>whnf)|(refine Vo ?_)|exact T0|(refine W6 ?_)|(refine B0 ?_)|(refine T2 ?_ ?_)
def writtenS (y m d k:Int):Str:=if k=0 then putS (y / 100) 2 ++ putS (y % 100) 2 ++ [45] ++ putS m 2 ++ [45] ++ putS d 2 else if k=1 then putS d 2 ++ [46] ++ putS m 2 ++ [46] ++ (putS (y / 100) 2 ++ putS (y % 100) 2) else putS m 2 ++ [47] ++ putS d 2 ++ [47] ++ (putS (y / 100) 2 ++ putS (y % 100) 2)
theorem written_ct (y m d k:Int) (hk:0≤k∧k≤2) (hy:0≤y∧y≤9999) (hmo:0≤m∧m≤99) (hd:0≤d∧d≤99):Ct Tryz.prog 113 [.agg [i64 y,i64 m,i64 d],i64 k] fun r outs=>r = .str (writtenS y m d k)∧outs = []:=by
 unfold writtenS
 have e1:=mtwo_ct (y / 100) (by omega) (by omega)
 have e2:=mtwo_ct (y % 100) (by omega) (by omega)
 have e3:=mtwo_ct m (by omega) (by omega)
 have e4:=mtwo_ct d (by omega) (by omega)
 have lA:(putS (y / 100) 2).length=2:=rfl
 have lB:(putS (y % 100) 2).length=2:=rfl
 have lC:(putS m 2).length=2:=rfl
 have lD:(putS d 2).length=2:=rfl
 have e5:=mod3_ct k hk
 generalize hA:putS (y / 100) 2=A at *
 generalize hB:putS (y % 100) 2=B at *
 generalize hC:putS m 2=C at *
 generalize hD:putS d 2=E at *
 refine .det (De Tryz.func113 ord113 [] ?_)
 repeat' first|(rw [Int.tdiv_eq_ediv_of_nonneg (by omega)])|(rw [Int.tmod_eq_emod_of_nonneg (by omega)])|(refine S0 ?_;conv=>whnf)|(refine Vo ?_)|exact T0|(refine W6 ?_)|(refine Met.by e1 ?_;rintro q outs ⟨rfl,rfl⟩)|(refine Met.by e2 ?_;rintro q outs ⟨rfl,rfl⟩)|(refine Met.by e3 ?_;rintro q outs ⟨rfl,rfl⟩)|(refine Met.by e4 ?_;rintro q outs ⟨rfl,rfl⟩)|(refine Met.by e5 ?_;rintro q outs ⟨rfl,rfl⟩)|(refine Vc.om ?_ ?_;focus ((simp only [List.length_append,List.length_cons,List.length_nil];omega);done))|(refine Br.d (fun h=>?_) fun h=>?_)|(refine T2 ?_ ?_)|(refine K0 ?_)|(refine K1 ?_)
 ·rw [if_pos ‹k=0›]
 ·rw [if_neg (by omega),if_pos ‹k=1›]
 ·rw [if_neg (by omega),if_neg (by omega)]
end Kx
open Go Sx Go.Proofs
namespace Kx
def codesL:List Str:=[[83,87,49,32,49,65,65],[56,48,48,49],[56,48,32,48,50],[97,45,49]]
def addrsL:List Str:=[[49,50,32,77,97,105,110,32,83,116,46],[77,97,105,110,32,83,116,32,49,50],[80,97,114,107,32,82,100,32,51,98],[77,97,105,110,32,83,116,114,101,101,116],[48,48,55,32,80,97,114,107,32,114,100]]
def namesL:List Str:=[[114,111,98,101,114,116,32,115,109,105,116,104],[98,111,98,32,115,109,105,116,104],[114,117,112,101,114,116],[97,110,110,97,32,109,105,108,108,101,114],[97,110,110],[111,110,101,105,108,108],[109,97,114,105,97,32,118,97,110,32,115,109,105,116,104],[112,101,116,101,114]]
def RawP (k:Int) (x:Str):Prop :=
 x = []∨(k=2∧∃ y m d w:Int,(1980≤y∧y≤1981)∧(1≤m∧m≤3)∧(1≤d∧d≤3)∧x=writtenS y m d w)∨(k=3∧x ∈ codesL)∨(k=4∧x ∈ addrsL) ∨
 (k≠2∧k≠3∧k≠4∧∃ n ∈ namesL,x.length≤2*n.length+2∧(foldedC n→(∀ y ∈ x,isPrn y=true)∧toks (x.flatMap plainS)=toks n))
theorem rawv_ct (d:Dk) (k:Int):Ct Tryz.prog 68 [d.b,i64 k] fun r outs=>∃ (x:Str) (d' : Dk),RawP k x∧r = .str x∧outs = [Dk.b d']:=by
 refine .some2 (De Tryz.func68 [] [] ?_)
 repeat' first|(refine S0 ?_;conv=>whnf)|(refine W6 ?_)|(refine Met.by (picks_ct _ namesL (by decide) (by decide)) ?_;rintro q outs ⟨x,d,hx,rfl,rfl⟩)|(refine Met.by (picks_ct _ codesL (by decide) (by decide)) ?_;rintro q outs ⟨x,d,hx,rfl,rfl⟩)|(refine Met.by (picks_ct _ addrsL (by decide) (by decide)) ?_;rintro q outs ⟨x,d,hx,rfl,rfl⟩)|(refine Br.d (fun h=>?_) fun h=>?_)|(refine Bm (fun h=>?_) fun h=>?_)|(refine CallOK.io1 (g:=14) (Step.out ?_))|(refine CallOK.io1 (g:=25) (Step.out ?_))|(refine CallOK.io1F (g:=114) (Step.out ?_))|(refine CallOK.io1 (g:=115) (Step.out ?_))|(refine K0 ?_)|(refine Met.by (g:=14) (next_ct _ _) ?_;rintro q outs ⟨x,d,hx,rfl,rfl⟩)|(refine Met.by (g:=25) (one_ct _ _) ?_;rintro q outs ⟨x,d,hx,rfl,rfl⟩)|(refine Met.by (g:=113) (written_ct _ _ _ _ (by omega) (by omega) (by omega) (by omega)) ?_;rintro q outs ⟨rfl,rfl⟩)
 ·refine Lf2.by [] d (.inl rfl) ?_
  repeat' first|(refine S0 ?_;conv=>whnf)|exact T0|exact T1|(refine T2 ?_ ?_)
 ·rename_i a _ ha b _ hb c _ hc
  have a3:=ha.2.2 (by decide);have b3:=hb.2.2 (by decide);have c3:=hc.2.2 (by decide)
  have a4:=ha.2.2 (by decide)
  refine Lf2.by (writtenS (1980+a) (1+b) (1+c) x) d (.inr (.inl ⟨h,1980+a,1+b,1+c,x,⟨by omega,by omega⟩,⟨by omega,by omega⟩,⟨by omega,by omega⟩,rfl⟩)) ?_
  repeat' first|(refine S0 ?_;conv=>whnf)|exact T0|exact T1|(refine T2 ?_ ?_)
 ·refine Lf2.by x d (.inr (.inr (.inl ⟨h,hx⟩))) ?_
  repeat' first|(refine S0 ?_;conv=>whnf)|exact T0|exact T1|(refine T2 ?_ ?_)
 ·refine Lf2.by x d (.inr (.inr (.inr (.inl ⟨h,hx⟩)))) ?_
  repeat' first|(refine S0 ?_;conv=>whnf)|exact T0|exact T1|(refine T2 ?_ ?_)
 ·have hN:∀ n ∈ namesL,n.length≤100000:=by decide
  refine Met.by (dressP_ct _ x (hN _ hx)) ?_
  rintro q outs ⟨z,d,hz,rfl,rfl⟩
  repeat' first|(refine S0 ?_;conv=>whnf)
  refine Lf2.by z d (.inr (.inr (.inr (.inr ⟨‹_›,‹_›,h,x,hx,hz⟩)))) ?_
  repeat' first|(refine S0 ?_;conv=>whnf)|exact T0|exact T1|(refine T2 ?_ ?_)
end Kx
