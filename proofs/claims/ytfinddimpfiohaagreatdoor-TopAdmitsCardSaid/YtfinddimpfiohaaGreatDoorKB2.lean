/-
  Comparisons; components; where one stands among some; equal neighbours dropped.
  No condition beyond those written in each theorem.
-/
import Derived.Test.YtfinddimpfiohaaGreatDoorKA1
import Derived.Test.YtfinddimpfiohaaGreatDoorFD
import Derived.Test.YtfinddimpfiohaaGreatDoorKB1
import Derived.Test.YtfinddimpfiohaaGreatDoorKA3
import Derived.Test.YtfinddimpfiohaaGreatDoorKA4
import Derived.Test.YtfinddimpfiohaaGreatDoorKA6
import Derived.Test.YtfinddimpfiohaaGreatDoorKA8
import Derived.WalkKit
set_option linter.unusedSimpArgs false
set_option linter.unusedVariables false
set_option maxRecDepth 4000
open Go Sx Go.Proofs
namespace Kx
def cmpI (a b:Int):Int:=if a<b then -1 else if a > b then 1 else 0
theorem isnanI_ct (a:Int):Cr 229 [i64 a] (.bool false):=by
 refine .det (De Tryz.func229 [] [] ?_)
 repeat' first|refine S0 ?_;conv=>whnf|exact T0|refine T2 ?_ ?_
 all_goals first
  | trivial
  | exact hb h
  | with_reducible rfl
  | with_reducible exact same_rfl
  | omega
  | ((simp;done))
theorem compare_i (a b:Int):Cr 167 [i64 a,i64 b] (i64 (cmpI a b)):=by
 refine .det (De Tryz.func167 [] [] ?_)
 repeat' first|refine S0 ?_;conv=>whnf|exact T0|with_reducible refine Br.ff ?_|(refine Br.d (fun h=>?_) fun h=>?_)|refine T2 ?_ ?_|refine K0 ?_|(refine M0 (g:=229) (isnanI_ct _) ?_)
 all_goals first
  | trivial
  | exact hb h
  | with_reducible rfl
  | with_reducible exact same_rfl
  | omega
  | ((simp only [cmpI];repeat' split<;>omega))
  | ((simp [cmpI, *];done))
  | ((simp [cmpI, *];omega))
theorem isnanU_ct (a:Int):Cr 285 [u64 a] (.bool false):=by
 refine .det (De Tryz.func285 [] [] ?_)
 repeat' first|refine S0 ?_;conv=>whnf|exact T0|refine T2 ?_ ?_
 all_goals first
  | trivial
  | exact hb h
  | with_reducible rfl
  | with_reducible exact same_rfl
  | omega
  | ((simp;done))
def orL:List Int->Int
 | []=>0
 | x :: l=>if x≠0 then x else orL l
theorem orL_i (l:List Int) (hl:l.length<=1000000):Cr 166 [ints l] (i64 (orL l)):=by
 refine .det (De Tryz.func166 [] [] ?_)
 repeat' first|refine S0 ?_;conv=>whnf
 refine Lw [] [] (α:=Nat) (fun i=>[(3,i64 0),(6,ints l),(7,i64 l.length),(8,i64 i)]) (fun i=>[]) 0 (fun i=>i<=l.length/\orL l=orL (l.drop i)) (fun i=>l.length - i) ?_ ?_
 ·refine Again.by 0 ⟨zle _,rfl⟩ ?_
  repeat' first|refine S0 ?_;conv=>whnf|refine Vo ?_|exact T0
 ·intro i ⟨h1,hv⟩
  repeat' first|refine S0 ?_;conv=>whnf|refine Vo ?_|exact T0|refine W6 ?_|(refine Br.d (fun h=>?_) fun h=>?_)|refine Br.bnot ?_|refine T2 ?_ ?_
  all_goals try simp only [tnc] at *
  ·refine Again.by (i+1) ⟨⟨by omega,by rw [hv,drop_step l 0 i (by omega),orL,if_neg (not_not_intro h)]⟩,by omega⟩ ?_
   repeat' first|refine S0 ?_;conv=>whnf|refine Vo ?_|exact T0
  ·rw [hv,drop_step l 0 i (by omega),orL,if_pos h]
  ·rw [hv,ddl (show l.length<=i by omega)];rfl
def orI (a b:Int):Int:=if a≠0 then a else b
theorem or_ct (a b:Int):Cr 166 [.tab 1 2 fun i=>selC [[i64 a],[i64 b]] i] (i64 (orI a b)):=by
 have h:=(orL_i [a,b] (by simp)).arg (args:=[.tab 1 2 fun i=>selC [[i64 a],[i64 b]] i]) ⟨rfl,⟨rfl,fun i hi=>selC_get (fun x:Int=>[i64 x]) 0 (fun _ _=>rfl) [a,b] i hi⟩,trivial⟩;refine h.mono ?_
 rintro r outs ⟨rfl,rfl⟩
 refine ⟨?_,rfl⟩
 congr 1
 simp only [orL,orI]
 (repeat' split)<;>simp_all
abbrev Cp:=Int × Int
def cpF (c:Cp):List D:=[i64 c.1,i64 c.2]
def cps (l:List Cp):D:=.tab 2 l.length fun i=>cpF (l.getD i (0,0))
def kys (K:List (List Cp)):D:=.tab 1 K.length fun i=>[cps (K.getD i [])]
end Kx
open Go Sx Go.Proofs
namespace Kx
def fitB (t k:Int):Bool:=decide (t=1) || decide (t=3) || (decide (t=2) && decide (k=1)) || (decide (t=4) && decide (k=2)) || (decide (t=5) && decide (k=4))
structure CpOk (s:Sc) (c:Cp):Prop where
 b0:0<=c.1
 b1:c.1<s.f.length
 ft:fitB c.2 (s.kind c.1.toNat)=true
theorem getD_ap1 {α:Type} (l:List α) (x z:α) (i:Nat) (h:i<l.length):(l ++ [x]).getD i z=l.getD i z:=by
 rw [gDe,List.getElem?_append_left h,<-gDe]
theorem getD_last {α:Type} (l:List α) (x z:α):(l ++ [x]).getD l.length z=x:=by
 rw [gDe,List.getElem?_append_right (Nat.le_refl _),Nat.sub_self];rfl
structure CpsOk (s:Sc) (k:List Cp) (f:Nat):Prop where
 n:k.length<=3
 c:∀ i,i<k.length->CpOk s (k.getD i (0,0))
 lt:∀ i,i<k.length->(k.getD i (0,0)).1<f
 asc:∀ i,i+1<k.length->(k.getD i (0,0)).1<(k.getD (i+1) (0,0)).1
theorem CpsOk.nil (s:Sc) (f:Nat):CpsOk s [] f:=⟨by simp,nofun,nofun,nofun⟩
theorem CpsOk.up {s:Sc} {k:List Cp} {f:Nat} (h:CpsOk s k f):CpsOk s k (f+1):=⟨h.n,h.c,fun i hi=>by have:=h.lt i hi;omega,h.asc⟩
theorem CpsOk.snoc {s:Sc} {k:List Cp} {f:Nat} (h:CpsOk s k f) (hk:k.length<3) (hf:f<s.f.length) (t:Int) (ht:fitB t (s.kind f)=true):CpsOk s (k ++ [((f:Int),t)]) (f+1):=by
 refine ⟨by simp;omega,fun i hi=>?_,fun i hi=>?_,fun i hi=>?_⟩<;>rw [lap,List.length_cons,List.length_nil] at hi
 ·by_cases e:i<k.length
  ·rw [getD_ap1 _ _ _ _ e];exact h.c i e
  ·obtain rfl:i=k.length:=by omega
   rw [getD_last];exact ⟨Int.natCast_nonneg _,by dsimp only;omega,by simpa using ht⟩
 ·by_cases e:i<k.length
  ·rw [getD_ap1 _ _ _ _ e];have:=h.lt i e;omega
  ·obtain rfl:i=k.length:=by omega
   rw [getD_last];dsimp only;omega
 ·by_cases e:i+1<k.length
  ·rw [getD_ap1 _ _ _ _ e,getD_ap1 _ _ _ _ (by omega)];exact h.asc i e
  ·have e:i+1=k.length:=by omega
   rw [e,getD_last,getD_ap1 _ _ _ _ (by omega)];exact h.lt i (by omega)
structure KyOk (s:Sc) (k:List Cp):Prop where
 p:1<=k.length
 o:CpsOk s k s.f.length
theorem CpsOk.top {s:Sc} {k:List Cp} {f:Nat} (h:CpsOk s k f):CpsOk s k s.f.length:=⟨h.n,h.c,fun i hi=>(h.c i hi).b1,h.asc⟩
theorem KyOk.one {s:Sc} (hs:ScD s):KyOk s [(0,1)]:=⟨by simp,by simp,fun i hi=>by
 simp only [List.length_cons,List.length_nil] at hi
 obtain rfl:i=0:=by omega
 exact ⟨Int.le_refl _,by have:=hs.n1;simp;omega,rfl⟩,fun i hi=>by
 simp only [List.length_cons,List.length_nil] at hi
 obtain rfl:i=0:=by omega
 have:=hs.n1;simp;omega,fun i hi=>by simp at hi⟩
theorem cp_app (l:List Cp) (x:Cp) {m:List D} (hm:m=cpF x):l.length+1=(l ++ [x]).length/\∀ i,i<(l ++ [x]).length->iteL (i<l.length) (cpF (l.getD i (0,0))) (selC [m] (i - l.length))=cpF ((l ++ [x]).getD i (0,0)) :=
 app_one cpF (0,0) (fun _ _=>rfl) l x hm
theorem kyL_ite (c:Prop) [Decidable c] (a b:List Cp):iteL c [cps a] [cps b] = [cps (if c then a else b)]:=by
 show [D.tab 2 (if c then a.length else b.length) fun i=>[D.int .i64 (if c then (a.getD i (0,0)).1 else (b.getD i (0,0)).1),D.int .i64 (if c then (a.getD i (0,0)).2 else (b.getD i (0,0)).2)]]=_
 split<;>rfl
theorem ky_app (K:List (List Cp)) (k:List Cp):K.length+1=(K ++ [k]).length/\∀ i,i<(K ++ [k]).length->iteL (i<K.length) [cps (K.getD i [])] (selC [[cps k]] (i - K.length)) = [cps ((K ++ [k]).getD i [])] :=
 ⟨by simp,fun i hi=>by
  rw [lap,List.length_cons,List.length_nil] at hi
  show iteL (i<K.length) [cps (K.getD i [])] [cps k]=_
  rw [kyL_ite];by_cases e:i<K.length
  ·rw [if_pos e,getD_ap1 _ _ _ _ e]
  ·obtain rfl:i=K.length:=by omega
   rw [if_neg e,getD_last]⟩
def kyT (k:Int):Int:=[0,2,4,1,5].getD k.toNat 0
theorem kyT_if (q:Int) (h1:1<=q) (h4:q<=4):(if q.toNat=0 then (0:Int) else if q.toNat - 1=0 then 2 else if q.toNat - 1 - 1=0 then 4 else if q.toNat - 1 - 1 - 1=0 then 1 else 5)=kyT q:=by
 rcases (show q=1\/q=2\/q=3\/q=4 by omega) with rfl | rfl | rfl | rfl<;>rfl
theorem kyT_ok (k:Int) (h1:1<=k) (h4:k<=4):fitB (kyT k) k=true:=by
 have e:k=1\/k=2\/k=3\/k=4:=by omega
 rcases e with rfl | rfl | rfl | rfl<;>decide
def kyU (x:Int):Int:=[1,3].getD x.toNat 0
theorem kyU_ok (x k:Int) (h0:0<=x) (h2:x<2):fitB (kyU x) k=true:=by
 have e:x=0\/x=1:=by omega
 rcases e with rfl | rfl<;>simp [kyU,fitB]
def kysO (K:List (List Cp)):D:=.ftab 97 1 K.length fun i=>[cps (K.getD i [])]
theorem bkeys_ct (d:Dk) (s:Sc) (hs:ScD s) (m:Int) (hm4:0<=m/\m<=4):Ct Tryz.prog 25 [d.b,s.d,i64 m] fun r outs=>∃ (K:List (List Cp)) (d' : Dk),(K.length<=4/\∀ k ∈ K,KyOk s k)/\r=kysO K/\outs = [Dk.b d']:=by
 have n1:=hs.n1;have n4:=hs.n4;refine .some2 (De Tryz.func25 [] [] ?_)
 repeat' first|refine S0 ?_;conv=>whnf|refine W6 ?_|(refine CallOK.io1 (g:=9) (Step.out ?_))|(refine Met.by (g:=9) (next_ct _ _) ?_;rintro q outs ⟨x,d,hx,rfl,rfl⟩)
 have hK:=hx.2.2 (by omega);have hK0:=hx.1;refine Lw [] [14] (α:=List (List Cp) × Dk) (fun z=>[(0,.loc 0 0),(4,.loc 1 0),(7,.own 2),(8,i64 (x - z.1.length))]) (fun z=>[(0,.var z.2.ls),(1,.var s.l),(2,.arr 97 1 z.1.length fun i=>[cps (z.1.getD i [])])]) 3 (fun z=>(∀ k ∈ z.1,KyOk s k)/\(z.1.length:Int)<=x) (fun z=>(x - z.1.length).toNat) ?_ ?_
 ·refine Again.by ([],d) ⟨nofun,by simp;omega⟩ ?_
  repeat' first|refine S0 ?_;conv=>whnf|refine Vo ?_|exact T0|(rfl)|(simp;done)|refine Vm ?_ ?_
 ·intro ⟨K,d⟩ ⟨hl,hi⟩;dsimp only at hi hl ⊢
  repeat' first|refine S0 ?_;conv=>whnf|(refine Br.d (fun h=>?_) fun h=>?_)
  refine Lw [] [] (α:=List Cp × Nat × Dk) (fun y=>[(0,.loc 0 0),(4,.loc 1 0),(7,.own 2),(8,i64 (x - K.length)),(9,.loc 3 0),(10,i64 y.2.1)]) (fun y=>[(0,.var y.2.2.ls),(1,.var s.l),(2,.arr 97 1 K.length fun i=>[cps (K.getD i [])]),(3,.var [.own 4]),(4,.arr 94 2 y.1.length fun j=>cpF (y.1.getD j (0,0)))]) 5 (fun y=>CpsOk s y.1 y.2.1/\y.2.1<=s.f.length) (fun y=>s.f.length - y.2.1) ?_ ?_
  ·refine Again.by ([],0,d) (And.intro (CpsOk.nil s 0) (zle _)) ?_
   repeat' first|refine S0 ?_;conv=>whnf|refine Vo ?_|refine Vb ?_|exact T0|(rfl)|refine Vm ?_ ?_
  ·intro ⟨k,f,d⟩ ⟨hk,hf⟩;dsimp only at hk hf ⊢
   repeat' first|refine S0 ?_;conv=>whnf|refine Vo ?_|refine Vb ?_|refine W6 ?_|(refine Br.d (fun h=>?_) fun h=>?_)|refine Br.bnot ?_|(refine Bm (fun h=>?_) fun h=>?_)|(refine CallOK.io1 (g:=8) (Step.out ?_))|(refine CallOK.io1 (g:=9) (Step.out ?_))|(refine Met.by (g:=8) (one_ct _ _) ?_;rintro q outs ⟨x,d,hx,rfl,rfl⟩)|(refine Met.by (g:=9) (next_ct _ _) ?_;rintro q outs ⟨x,d,hx,rfl,rfl⟩)|refine Vm ?_ ?_
   all_goals try have hkd:1<=(s.f.getD f ([],0)).2/\(s.f.getD f ([],0)).2<=4:=hs.ok.kd (i:=f) (by omega)
   all_goals try simp only [tnc] at *
   all_goals try omega
   ·refine Again.by (k ++ [((f:Int),kyT (s.kind f))],f+1,d) ⟨⟨hk.snoc (by omega) (by omega) _ (kyT_ok _ hkd.1 hkd.2),by dsimp only;omega⟩,by dsimp only;omega⟩ ?_
    repeat' first|refine S0 ?_;conv=>whnf|refine Vo ?_|refine Vb ?_|exact T0|(exact cp_app k (_,_) (congrArg (fun t:Int=>[i64 f,i64 t]) (kyT_if _ hkd.1 hkd.2)))|refine Vm ?_ ?_
   ·rename_i w _ hw
    refine Again.by (k ++ [((f:Int),kyU w)],f+1,d) ⟨⟨hk.snoc (by omega) (by omega) _ (kyU_ok _ _ (by omega) (by omega)),by dsimp only;omega⟩,by dsimp only;omega⟩ ?_
    repeat' first|refine S0 ?_;conv=>whnf|refine Vo ?_|refine Vb ?_|exact T0|(refine cp_app k (_,_) ?_)|refine Vm ?_ ?_
    refine congrArg (fun t:Int=>cpF ((f:Int),t)) (a₂:=kyU w) ?_
    rcases (show w=0\/w=1 by omega) with rfl | rfl<;>rfl
   ·refine Again.by (k,f+1,d) ⟨⟨hk.up,by dsimp only;omega⟩,by dsimp only;omega⟩ ?_
    repeat' first|refine S0 ?_;conv=>whnf|refine Vo ?_|refine Vb ?_|exact T0
   ·refine Cw [] [] (α:=List Cp) (fun y=>[(0,.loc 0 0),(4,.loc 1 0),(7,.own 2),(8,i64 (x - K.length)),(9,.loc 3 0)]) (fun y=>[(0,.var d.ls),(1,.var s.l),(2,.arr 97 1 K.length fun i=>[cps (K.getD i [])]),(3,.var [.own 4]),(4,.arr 94 2 y.length fun j=>cpF (y.getD j (0,0)))]) 5 (fun y=>KyOk s y) ?_ ?_
    ·repeat' first|refine S0 ?_;conv=>whnf|refine B0 ?_
     refine Again.by k ⟨by omega,hk.top⟩ ?_
     repeat' first|refine S0 ?_;conv=>whnf|refine Vo ?_|exact T0
    ·intro y hy
     repeat' first|refine S0 ?_;conv=>whnf|refine Vb ?_|refine W6 ?_
     refine Again.by (K ++ [y],d) ⟨⟨fun z hz=>?_,by simp;omega⟩,by simp;omega⟩ ?_
     ·rcases List.mem_append.1 hz with h | h
      ·exact hl _ h
      ·rw [List.mem_singleton.1 h];exact hy
     repeat' first|refine S0 ?_;conv=>whnf|refine Vo ?_|exact T0|(exact ky_app K y)|(simp;omega)|refine Vm ?_ ?_
   ·refine Cw [] [] (α:=List Cp) (fun y=>[(0,.loc 0 0),(4,.loc 1 0),(7,.own 2),(8,i64 (x - K.length)),(9,.loc 3 0)]) (fun y=>[(0,.var d.ls),(1,.var s.l),(2,.arr 97 1 K.length fun i=>[cps (K.getD i [])]),(3,.var [.own 4]),(4,.arr 94 2 y.length fun j=>cpF (y.getD j (0,0)))]) 5 (fun y=>KyOk s y) ?_ ?_
    ·repeat' first|refine S0 ?_;conv=>whnf|(refine Br.d (fun h=>?_) fun h=>?_)
     ·refine Again.by [(0,1)] (KyOk.one hs) ?_
      repeat' first|refine S0 ?_;conv=>whnf|refine Vo ?_|exact T0|(exact ⟨rfl,fun i hi=>by rw [show i=0 from by simpa using hi];rfl⟩)|refine Vm ?_ ?_
     ·refine Again.by k ⟨by omega,hk.top⟩ ?_
      repeat' first|refine S0 ?_;conv=>whnf|refine Vo ?_|exact T0
    ·intro y hy
     repeat' first|refine S0 ?_;conv=>whnf|refine Vb ?_|refine W6 ?_
     refine Again.by (K ++ [y],d) ⟨⟨fun z hz=>?_,by simp;omega⟩,by simp;omega⟩ ?_
     ·rcases List.mem_append.1 hz with h | h
      ·exact hl _ h
      ·rw [List.mem_singleton.1 h];exact hy
     repeat' first|refine S0 ?_;conv=>whnf|refine Vo ?_|exact T0|(exact ky_app K y)|(simp;omega)|refine Vm ?_ ?_
  ·refine Lf2.by K d ⟨by omega,hl⟩ ?_
   repeat' first|refine S0 ?_;conv=>whnf|exact T0|exact T1|refine T2 ?_ ?_
end Kx
open Go Sx Go.Proofs
namespace Kx
def digTab:Str:=[32,49,50,51,32,49,50,45,32,50,50,52,53,53,32,49,50,54,50,51,32,49,45,50,32,50]
def dig (x:UInt8):UInt8:=digTab.getD (x.toNat - 97) 0
def rightB (s:Str):Bool:=!decide (s = []) && (decide ((s.length:Int)<=64) && decide (letters s=s))
theorem all_let {s:Str} (h:letters s=s):∀ x ∈ s,isLet x=true:=List.filter_eq_self.1 h
theorem phright_of {s:Str} (h:rightB s=true):s≠[]/\s.length<=64/\∀ x ∈ s,isLet x=true:=by
 simp only [rightB,bat,Bool.not_eq_true',decide_eq_false_iff_not,decide_eq_true_eq] at h;have h2:=h.2.1;exact ⟨h.1,by omega,all_let h.2.2⟩
theorem let_in {x:UInt8} (h:isLet x=true):97<=(x.toNat:Int)/\(x.toNat:Int)<=122:=by
 simpa [isLet] using h
theorem right_ct (s:Str) (hs:s.length<=1000000000):Cr 362 [.str s] (.bool (rightB s)):=by
 refine .det (De Tryz.func362 [] [] ?_)
 repeat' first|refine S0 ?_;conv=>whnf|exact T0|(refine Br.d (fun h=>?_) fun h=>?_)|refine Br.bnot ?_|refine T2 ?_ ?_|refine K0 ?_|(refine M0 (g:=89) (lettersS_ct _ (by first | omega | decide | (simp;done) | (simp;omega))) ?_)
 all_goals try simp only [<-token_eq]
 all_goals try (simp_all [rightB];done)
 all_goals
  have e:decide (s = [])=false:=decide_eq_false (by assumption);have h2:=h;simp only [rightB,e,h2,decide_true,decide_false,Bool.not_false,Bool.true_and,Bool.false_and]
  all_goals exact decide_eq_decide.2 Iff.rfl
theorem right_is (s:Str) (hs:s.length<=1000000000) (b:Bool) (h:rightB s=b):Cr 362 [.str s] (.bool b):=h ▸ right_ct s hs
theorem phcode_ct (x:UInt8) (h:isLet x=true):Cr 363 [u8 x.toNat] (u8 (dig x).toNat):=by
 obtain ⟨h1,h2⟩:=let_in h;refine .det (De Tryz.func363 [] [] ?_)
 repeat' first|refine S0 ?_;conv=>whnf|exact T0|refine W8 ?_|(refine Vc.om ?_ ?_;focus ((refine ⟨?_,?_⟩;omega;(change _<((26:Nat):Int);omega));done))|refine T2 ?_ ?_
 all_goals first
  | trivial
  | exact hb h
  | with_reducible rfl
  | with_reducible exact same_rfl
  | omega
  | ((rw [show ((x.toNat:Int) - 97).toNat=x.toNat - 97 by omega];rfl))
def stepS (o:Str) (d:UInt8) (x:UInt8):Str × UInt8:=if dig x=45 then (o,d) else if dig x≠32/\dig x≠d then (o ++ [dig x],dig x) else (o,dig x)
def sdxL:Str->UInt8->Str->Str
 | o,_,[]=>o
 | o,d,x :: l=>if o.length<4 then sdxL (stepS o d x).1 (stepS o d x).2 l else o
def pad4 (o:Str):Str:=o ++ List.replicate (4 - o.length) 48
def sdx (s:Str):Str:=if rightB s=true then pad4 (sdxL [s.getD 0 0] (dig (s.getD 0 0)) (s.drop 1)) else []
theorem sdxL_end (o:Str) (d:UInt8) (l:Str) (h:l = []\/¬o.length<4):sdxL o d l=o:=by
 cases l with
 | nil=>rfl
 | cons x l=>rcases h with h | h;(· cases h);(· rw [sdxL,if_neg h])
theorem sdxL_step (o:Str) (d:UInt8) (s:Str) (i:Nat) (h:i<s.length) (ho:o.length<4):sdxL o d (s.drop i)=sdxL (stepS o d (s.getD i 0)).1 (stepS o d (s.getD i 0)).2 (s.drop (i+1)):=by
 rw [drop_step s 0 i h,sdxL,if_pos ho]
theorem u8_eq {x:UInt8} {n:Nat} (hn:n<256) (h:(x.toNat:Int)=n):x=UInt8.ofNat n:=UInt8.toNat_inj.1 (by rw [UInt8.toNat_ofNat'];omega)
theorem u8_ne {x y:UInt8} (h:¬(x.toNat:Int)=y.toNat):x≠y:=fun e=>h (by rw [e])
theorem pad_step (o:Str) (h:o.length<4):pad4 (o ++ [48])=pad4 o:=by
 unfold pad4;rw [lap,show 4 - o.length=(4 - (o.length+1))+1 by omega,List.replicate_succ,List.append_assoc];rfl
theorem pad_end (o:Str) (h:¬o.length<4):pad4 o=o:=by
 unfold pad4;rw [show 4 - o.length=0 by omega];simp
theorem stepS_skip {o:Str} {e x:UInt8} (h:((dig x).toNat:Int)=45):stepS o e x=(o,e):=if_pos (u8_eq (by decide) h)
theorem stepS_none {o:Str} {e x:UInt8} (h:((dig x).toNat:Int)=32):stepS o e x=(o,dig x):=by
 have h:=u8_eq (n:=32) (by decide) h;rw [stepS,if_neg (by rw [h];decide),if_neg (fun k=>k.1 (by rw [h];rfl))]
theorem stepS_same {o:Str} {e x:UInt8} (h1:¬((dig x).toNat:Int)=45) (h:((dig x).toNat:Int)=e.toNat):stepS o e x=(o,dig x):=by
 rw [stepS,if_neg (fun k=>h1 (by rw [k];rfl)),if_neg (fun k=>k.2 (UInt8.toNat_inj.1 (by omega)))]
theorem stepS_add {o:Str} {e x:UInt8} (h1:¬((dig x).toNat:Int)=45) (h2:¬((dig x).toNat:Int)=32) (h:¬((dig x).toNat:Int)=e.toNat):stepS o e x=(o ++ [dig x],dig x):=by
 rw [stepS,if_neg (fun k=>h1 (by rw [k];rfl)),if_pos ⟨fun k=>h2 (by rw [k];rfl),u8_ne h⟩]
theorem soundex_ct (s:Str) (hs:s.length<=1000000000):Cr 355 [.str s] (.str (sdx s)):=by
 cases hr:rightB s
 ·refine .det (De Tryz.func355 ord355 [] ?_)
  repeat' first|refine S0 ?_;conv=>whnf|exact T0|with_reducible refine Br.ff ?_|(refine M0 (right_is s hs _ hr) ?_)|refine Br.bnot ?_|refine T2 ?_ ?_|refine K0 ?_
  all_goals first
   | trivial
   | exact hb h
   | with_reducible rfl
   | with_reducible exact same_rfl
   | omega
   | ((rw [sdx,hr];rfl))
 obtain ⟨h0,h1,h2⟩:=phright_of hr;have hp:1<=s.length:=List.length_pos_iff.2 h0
 have hl:∀ i,i<s.length->isLet (s.getD i 0)=true:=fun i hi=>h2 _ (getD_in hi)
 have hx:sdx s=pad4 (sdxL [s.getD 0 0] (dig (s.getD 0 0)) (s.drop 1)):=by rw [sdx,if_pos hr]
 refine .det (De Tryz.func355 ord355 [] ?_)
 repeat' first|refine S0 ?_;conv=>whnf|refine Vo ?_|exact T0|with_reducible refine Br.tt ?_|(refine M0 (right_is s hs _ hr) ?_)|(refine M0 (phcode_ct (s.getD 0 0) (hl 0 hp)) ?_)|refine Br.bnot ?_|refine T2 ?_ ?_|refine K0 ?_|refine K1 ?_
 all_goals
  refine Lw ord355 [] (α:=Nat × Str × UInt8) (fun z=>[(3,.own 0),(4,u8 z.2.2.toNat),(0,.str s),(5,i64 z.1)]) (fun z=>[(0,.arr 5 1 z.2.1.length (bytesF z.2.1))]) 1 (fun z=>(1<=z.1/\z.1<=s.length)/\z.2.1.length<=z.1/\sdx s=pad4 (sdxL z.2.1 z.2.2 (s.drop z.1))) (fun z=>s.length - z.1) ?_ ?_
  ·refine Again.by (1,[s.getD 0 0],dig (s.getD 0 0)) ⟨⟨Nat.le_refl _,hp⟩,Nat.le_refl _,hx⟩ ?_
   dsimp only
   repeat' first|refine S0 ?_;conv=>whnf|refine Vo ?_|exact T0|(exact ⟨rfl,fun i hi=>by obtain rfl:i=0:=(by simpa using hi);rfl⟩)|refine Vm ?_ ?_
  ·intro ⟨i,o,e⟩ ⟨⟨h3,h4⟩,h5,h6⟩;dsimp only at h3 h4 h5 h6 ⊢
   repeat' first|refine S0 ?_;conv=>whnf|refine Vo ?_|refine Vb ?_|refine W6 ?_|(refine M0 (phcode_ct _ (hl i (by omega))) ?_)|(refine Br.d (fun h=>?_) fun h=>?_)|refine Br.bnot ?_|refine K0 ?_
   all_goals try simp only [tnc] at *
   ·rw [sdxL_step o e s i (by omega) (by omega),stepS_skip ‹_›] at h6
    refine Again.by (i+1,o,e) ⟨⟨⟨by dsimp only;omega,by dsimp only;omega⟩,by dsimp only;omega,h6⟩,by dsimp only;omega⟩ ?_
    dsimp only
    repeat' first|refine S0 ?_;conv=>whnf|refine Vo ?_|exact T0
   ·rw [sdxL_step o e s i (by omega) (by omega),stepS_none ‹_›] at h6
    refine Again.by (i+1,o,dig (s.getD i 0)) ⟨⟨⟨by dsimp only;omega,by dsimp only;omega⟩,by dsimp only;omega,h6⟩,by dsimp only;omega⟩ ?_
    dsimp only
    repeat' first|refine S0 ?_;conv=>whnf|refine Vo ?_|exact T0
   ·rw [sdxL_step o e s i (by omega) (by omega),stepS_same ‹_› ‹_›] at h6
    refine Again.by (i+1,o,dig (s.getD i 0)) ⟨⟨⟨by dsimp only;omega,by dsimp only;omega⟩,by dsimp only;omega,h6⟩,by dsimp only;omega⟩ ?_
    dsimp only
    repeat' first|refine S0 ?_;conv=>whnf|refine Vo ?_|exact T0
   ·rw [sdxL_step o e s i (by omega) (by omega),stepS_add ‹_› ‹_› ‹_›] at h6
    refine Again.by (i+1,o ++ [dig (s.getD i 0)],dig (s.getD i 0)) ⟨⟨⟨by dsimp only;omega,by dsimp only;omega⟩,by simp;omega,h6⟩,by dsimp only;omega⟩ ?_
    dsimp only
    repeat' first|refine S0 ?_;conv=>whnf|refine Vo ?_|exact T0|(exact byte_app _ _ rfl)|refine Vm ?_ ?_
   all_goals
    rw [sdxL_end o e _ (by first | (left;exact List.drop_eq_nil_of_le (by omega)) | (right;omega))] at h6;refine Lw ord355 [] (α:=Str) (fun p=>[(3,.own 0)]) (fun p=>[(0,.arr 5 1 p.length (bytesF p))]) 1 (fun p=>p.length<=s.length+4/\sdx s=pad4 p) (fun p=>4 - p.length) ?_ ?_
    ·refine Again.by o ⟨by omega,h6⟩ ?_
     repeat' first|refine S0 ?_;conv=>whnf|refine Vo ?_|exact T0
    ·intro p ⟨h7,h8⟩
     repeat' first|refine S0 ?_;conv=>whnf|refine Vb ?_|(refine Br.d (fun h=>?_) fun h=>?_)
     ·refine Again.by (p ++ [48]) ⟨⟨by simp;omega,by rw [h8,pad_step p (by omega)]⟩,by simp;omega⟩ ?_
      repeat' first|refine S0 ?_;conv=>whnf|exact T0|(exact byte_app _ _ rfl)|refine Vm ?_ ?_
     ·rw [pad_end p (by omega)] at h8
      refine Lf.by _ ⟨rfl,fun _ _=>rfl⟩ ?_
      repeat' first|refine S0 ?_;conv=>whnf|exact T0|(exact h8.symm)|refine T2 ?_ ?_
end Kx
open Go Sx Go.Proofs
namespace Kx
def pkey (s:Str):Str:=if (toks s).length=0 then [] else sdx ((toks s).getD 0 [])
theorem ptoksF_len:∀ (l part:Str) (t:Str),t ∈ toksF part l->t.length<=part.length+l.length
 | [],part,t,h=>by
   simp only [toksF] at h;split at h
   ·cases h
   ·rw [List.mem_singleton.1 h];simp
 | x :: l,part,t,h=>by
   simp only [toksF] at h;split at h
   ·split at h
    ·have:=ptoksF_len l [] t h;simp at this ⊢;omega
    ·rcases List.mem_cons.1 h with rfl | h
     ·simp
     ·have:=ptoksF_len l [] t h;simp at this ⊢;omega
   ·have:=ptoksF_len l _ t h;simp at this ⊢;omega
theorem ptoks_len {s t:Str} (h:t ∈ toks s):t.length<=s.length:=by have:=ptoksF_len s [] t h;simpa using this
theorem ptok0_len {s:Str} (h:¬((toks s).length:Int)=0):((toks s).getD 0 []).length<=s.length:=ptoks_len (getD_in (by omega))
theorem pkey_ct (s:Str) (hs:s.length<=1000000000):Cr 334 [.str s] (.str (pkey s)):=by
 refine .det (De Tryz.func334 [] [] ?_)
 repeat' first|refine S0 ?_;conv=>whnf|refine Vo ?_|exact T0|(refine M0 (soundex_ct _ (Nat.le_trans (ptok0_len ‹_›) hs)) ?_)|(refine Br.d (fun h=>?_) fun h=>?_)|refine T2 ?_ ?_|refine K0 ?_|(refine M0 (g:=260) (tokens_ct _ (by first | omega | decide | (simp;done) | (simp;omega))) ?_)
 all_goals first
  | trivial
  | exact hb h
  | with_reducible rfl
  | with_reducible exact same_rfl
  | omega
  | ((exact (if_pos (by omega)).symm))
  | ((exact (if_neg (by omega)).symm))
theorem sdxL_len:∀ (l o:Str) (d:UInt8),o.length<=4->(sdxL o d l).length<=4
 | [],o,_,h=>by simpa [sdxL] using h
 | x :: l,o,d,h=>by
   unfold sdxL;split
   ·refine sdxL_len l _ _ ?_;unfold stepS;split
    ·exact h
    ·split
     ·simp;omega
     ·exact h
   ·exact h
theorem sdx_len (s:Str):(sdx s).length<=4:=by
 unfold sdx;split
 ·have:=sdxL_len (s.drop 1) [s.getD 0 0] (dig (s.getD 0 0)) (by simp);unfold pad4;rw [lap,List.length_replicate];omega
 ·simp
theorem begin_ct (s:Str) (n:Int) (hn:0<=n) (hs:s.length<=1000000000):Ct Tryz.prog 336 [.str s,i64 n] fun r outs=>∃ t:Str,t.length<=s.length/\r = .str t/\outs = []:=by
 refine .some (De Tryz.func336 [] [] ?_)
 repeat' first|refine S0 ?_;conv=>whnf|refine Vo ?_
 refine Lf.by ((s.take (min n s.length).toNat).drop (0:Int).toNat) (by simp;omega) ?_
 repeat' first|refine S0 ?_;conv=>whnf|exact T0|refine T2 ?_ ?_
theorem und220:Tryz.prog.underlying 351=some (.map 3 191):=by kernel_rfl
theorem und3:Tryz.prog.underlying 3=some (.int .i64):=by kernel_rfl
theorem ck3 (x:Bool) (k:Int) (w:World):(Instr.checkKey x 10000 3 (.int .i64 k)).run Tryz.prog w = .ok () w:=by
 show (Instr.checkKey x (9999+1) 3 (.int .i64 k)).run Tryz.prog w = .ok () w
 rw [Instr.checkKey];simp only [Sem.run_bind,run_underlying und3,Result.andThen_ok];rfl
theorem tm_up (w:World) (b:Nat) (es:Array MapEntry) (ck:Nat) (k:Int) (v:Value) (hb:w.heap[b]? = some (.map es ck)) (hn:Instr.findNow (.int .i64) (.int .i64 k) es.toList 0=some none) :
 (Instr.mapUpdate 351 (.map (some b)) (.int .i64 k) v).run Tryz.prog w = .ok () { w with heap:=w.heap.setIfInBounds b (.map (es.push { key:=.int .i64 k,val:=v,born:=ck }) (ck+1)) }:=by
 have hg:(getObj b).run Tryz.prog w = .ok (.map es ck) w:=by simp [getObj,Sem.run,hb]
 have hf:(Instr.findKey 3 (.int .i64 k) es.toList).run Tryz.prog w = .ok none w:=by
  simp [Instr.findKey,run_underlying und3,hn]
 simp only [Instr.mapUpdate,Sem.run_bind,run_underlying und220,hg,ck3,hf,Result.andThen_ok];simp [setObj,Sem.run,hb]
theorem tm_get (w:World) (b:Nat) (es:Array MapEntry) (ck:Nat) (k:Int) (i:Nat) (v:Value) (hb:w.heap[b]? = some (.map es ck)) (hn:Instr.findNow (.int .i64) (.int .i64 k) es.toList 0=some (some (i,v))) :
 (Instr.lookup 351 (.map (some b)) (.int .i64 k) false).run Tryz.prog w = .ok v w:=by
 have hg:(getObj b).run Tryz.prog w = .ok (.map es ck) w:=by simp [getObj,Sem.run,hb]
 have hf:(Instr.findKey 3 (.int .i64 k) es.toList).run Tryz.prog w = .ok (some (i,v)) w:=by
  simp [Instr.findKey,run_underlying und3,hn]
 simp [Instr.lookup,run_underlying und220,hg,ck3,hf]
def tE1:Array MapEntry:=#[⟨.int .i64 1,.func (.func 333) #[] #[],0⟩]
def tE2:Array MapEntry:=tE1.push ⟨.int .i64 2,.func (.func 334) #[] #[],1⟩
def tE3:Array MapEntry:=tE2.push ⟨.int .i64 3,.func (.func 335) #[] #[],2⟩
def tE4:Array MapEntry:=tE3.push ⟨.int .i64 4,.func (.func 337) #[] #[],3⟩
def tE5:Array MapEntry:=tE4.push ⟨.int .i64 5,.func (.func 338) #[] #[],4⟩
theorem gp_new0 (h:Array Obj) (a:Obj):(h.push a)[h.size]? = some a:=by rw [Array.getElem?_push,if_pos rfl]
theorem push_set (h:Array Obj) (a b:Obj):(h.push a).setIfInBounds h.size b=h.push b:=by
 apply Array.ext
 ·simp
 ·intro i h1 h2;simp only [Array.size_setIfInBounds,Array.size_push] at h1;rw [Array.getElem_setIfInBounds (by simpa using h1),Array.getElem_push];split
  ·rw [Array.getElem_push,dif_neg (by omega)]
  ·rw [Array.getElem_push,dif_pos (by omega),dif_pos (by omega)]
theorem alloc_set (W:World) (a b:Obj):({ W.alloc a with heap:=(W.alloc a).heap.setIfInBounds W.heap.size b }:World)=W.alloc b :=
 congrArg (fun h=>({ W with heap:=h }:World)) (push_set W.heap a b)
theorem alloc_at (W:World) (a:Obj):(W.alloc a).heap[W.heap.size]? = some a:=gp_new0 _ _
theorem tm1 (W:World):(Instr.mapUpdate 351 (.map (some W.heap.size)) (.int .i64 1) (.func (.func 333) #[] #[])).run Tryz.prog (W.alloc (.map #[] 0)) = .ok () (W.alloc (.map tE1 1)):=by
 rw [tm_up _ _ _ _ _ _ (alloc_at _ _) rfl,alloc_set];rfl
theorem tm2 (W:World):(Instr.mapUpdate 351 (.map (some W.heap.size)) (.int .i64 2) (.func (.func 334) #[] #[])).run Tryz.prog (W.alloc (.map tE1 1)) = .ok () (W.alloc (.map tE2 2)):=by
 rw [tm_up _ _ _ _ _ _ (alloc_at _ _) rfl,alloc_set];rfl
theorem tm3 (W:World):(Instr.mapUpdate 351 (.map (some W.heap.size)) (.int .i64 3) (.func (.func 335) #[] #[])).run Tryz.prog (W.alloc (.map tE2 2)) = .ok () (W.alloc (.map tE3 3)):=by
 rw [tm_up _ _ _ _ _ _ (alloc_at _ _) rfl,alloc_set];rfl
theorem tm4 (W:World):(Instr.mapUpdate 351 (.map (some W.heap.size)) (.int .i64 4) (.func (.func 337) #[] #[])).run Tryz.prog (W.alloc (.map tE3 3)) = .ok () (W.alloc (.map tE4 4)):=by
 rw [tm_up _ _ _ _ _ _ (alloc_at _ _) rfl,alloc_set];rfl
theorem tm5 (W:World):(Instr.mapUpdate 351 (.map (some W.heap.size)) (.int .i64 5) (.func (.func 338) #[] #[])).run Tryz.prog (W.alloc (.map tE4 4)) = .ok () (W.alloc (.map tE5 5)):=by
 rw [tm_up _ _ _ _ _ _ (alloc_at _ _) rfl,alloc_set];rfl
set_option maxHeartbeats 4000000 in
set_option maxRecDepth 1000000 in
theorem transforms_law (W:World):Calls Tryz.prog 293 #[] W fun e w'=>e = .returned (.map (some W.heap.size))/\w' = W.alloc (.map tE5 5):=by
 have hmm:∀ w:World,(Instr.makeMap 351 none).run Tryz.prog w = .ok (.map (some w.heap.size)) (w.alloc (.map #[] 0)):=fun _=>rfl
 have h1:=tm1 W;have h2:=tm2 W;have h3:=tm3 W;have h4:=tm4 W;have h5:=tm5 W
 go_enter Tryz.func293,Tryz.ntmps293
 go_wp2
 go_ret
 exact ⟨rfl,rfl⟩
end Kx
