/-
  Block keys as the deck deals them.
  No condition beyond those written in each theorem.
-/
import Derived.Test.YtmomigckcngegaaGreatDoorKB4
import Derived.Test.YtmomigckcngegaaGreatDoorKC1
import Derived.Test.YtmomigckcngegaaGreatDoorKA3
import Derived.Test.YtmomigckcngegaaGreatDoorKA5
import Derived.Test.YtmomigckcngegaaGreatDoorKA7
import Derived.Test.YtmomigckcngegaaGreatDoorKA8
import Derived.Test.YtmomigckcngegaaGreatDoorKB2
import Derived.WalkKit
import Derived.Test.YtmomigckcngegaaGreatDoorFD
import Derived.Deep.RegionHeld2
set_option linter.unusedSimpArgs false
set_option linter.unusedVariables false
set_option maxRecDepth 4000
open Go Sx Go.Proofs
namespace Kx
def fitB (t k:Int):Bool:=decide (t=1) || decide (t=3) || (decide (t=2) && decide (k=1)) || (decide (t=4) && decide (k=2)) || (decide (t=5) && decide (k=4))
structure CpOk (s:Sc) (c:Cp):Prop where
 b0:0≤c.1
 b1:c.1<s.f.length
 ft:fitB c.2 (s.kind c.1.toNat)=true
theorem getD_ap1 {α:Type} (l:List α) (x z:α) (i:Nat) (h:i<l.length):(l ++ [x]).getD i z=l.getD i z:=by
 rw [List.getD_eq_getElem?_getD,List.getElem?_append_left h,←List.getD_eq_getElem?_getD]
theorem getD_last {α:Type} (l:List α) (x z:α):(l ++ [x]).getD l.length z=x:=by
 rw [List.getD_eq_getElem?_getD,List.getElem?_append_right (Nat.le_refl _),Nat.sub_self];rfl
structure CpsOk (s:Sc) (k:List Cp) (f:Nat):Prop where
 n:k.length≤3
 c:∀ i,i<k.length→CpOk s (k.getD i (0,0))
 lt:∀ i,i<k.length→(k.getD i (0,0)).1<f
 asc:∀ i,i+1<k.length→(k.getD i (0,0)).1<(k.getD (i+1) (0,0)).1
theorem CpsOk.nil (s:Sc) (f:Nat):CpsOk s [] f:=⟨by simp,nofun,nofun,nofun⟩
theorem CpsOk.up {s:Sc} {k:List Cp} {f:Nat} (h:CpsOk s k f):CpsOk s k (f+1):=⟨h.n,h.c,fun i hi=>by have:=h.lt i hi;omega,h.asc⟩
theorem CpsOk.snoc {s:Sc} {k:List Cp} {f:Nat} (h:CpsOk s k f) (hk:k.length<3) (hf:f<s.f.length) (t:Int) (ht:fitB t (s.kind f)=true):CpsOk s (k ++ [((f:Int),t)]) (f+1):=by
 refine ⟨by simp;omega,fun i hi=>?_,fun i hi=>?_,fun i hi=>?_⟩<;>rw [List.length_append,List.length_cons,List.length_nil] at hi
 ·by_cases e:i<k.length
  ·rw [getD_ap1 _ _ _ _ e];exact h.c i e
  ·obtain rfl:i=k.length:=by omega
   rw [getD_last];exact ⟨Int.natCast_nonneg _,by dsimp only;omega,by simpa using ht⟩
 ·by_cases e:i<k.length
  ·rw [getD_ap1 _ _ _ _ e];have:=h.lt i e;omega
  ·obtain rfl:i=k.length:=by omega
   rw [getD_last];dsimp only;omega
 ·by_cases e:i+1<k.length
  ·rw [getD_ap1 _ _ _ _ e,getD_ap1 _ _ _ _ (by omega)];exact h.asc i e
  ·have e:i+1=k.length:=by omega
   rw [e,getD_last,getD_ap1 _ _ _ _ (by omega)];exact h.lt i (by omega)
structure KyOk (s:Sc) (k:List Cp):Prop where
 p:1≤k.length
 o:CpsOk s k s.f.length
theorem CpsOk.top {s:Sc} {k:List Cp} {f:Nat} (h:CpsOk s k f):CpsOk s k s.f.length:=⟨h.n,h.c,fun i hi=>(h.c i hi).b1,h.asc⟩
theorem KyOk.one {s:Sc} (hs:ScD s):KyOk s [(0,1)]:=⟨by simp,by simp,fun i hi=>by
 simp only [List.length_cons,List.length_nil] at hi
 obtain rfl:i=0:=by omega
 exact ⟨Int.le_refl _,by have:=hs.n1;simp;omega,rfl⟩,fun i hi=>by
 simp only [List.length_cons,List.length_nil] at hi
 obtain rfl:i=0:=by omega
 have:=hs.n1;simp;omega,fun i hi=>by simp at hi⟩
theorem cp_app (l:List Cp) (x:Cp) {m:List D} (hm:m=cpF x):l.length+1=(l ++ [x]).length∧∀ i,i<(l ++ [x]).length→iteL (i<l.length) (cpF (l.getD i (0,0))) (selC [m] (i - l.length))=cpF ((l ++ [x]).getD i (0,0)) :=
 app_one cpF (0,0) (fun _ _=>rfl) l x hm
theorem kyL_ite (c:Prop) [Decidable c] (a b:List Cp):iteL c [cps a] [cps b] = [cps (if c then a else b)]:=by
 show [D.tab 2 (if c then a.length else b.length) fun i=>[D.int .i64 (if c then (a.getD i (0,0)).1 else (b.getD i (0,0)).1),D.int .i64 (if c then (a.getD i (0,0)).2 else (b.getD i (0,0)).2)]]=_
 split<;>rfl
theorem ky_app (K:List (List Cp)) (k:List Cp):K.length+1=(K ++ [k]).length∧∀ i,i<(K ++ [k]).length→iteL (i<K.length) [cps (K.getD i [])] (selC [[cps k]] (i - K.length)) = [cps ((K ++ [k]).getD i [])] :=
 ⟨by simp,fun i hi=>by
  rw [List.length_append,List.length_cons,List.length_nil] at hi
  show iteL (i<K.length) [cps (K.getD i [])] [cps k]=_
  rw [kyL_ite]
  by_cases e:i<K.length
  ·rw [if_pos e,getD_ap1 _ _ _ _ e]
  ·obtain rfl:i=K.length:=by omega
   rw [if_neg e,getD_last]⟩
def kyT (k:Int):Int:=[0,2,4,1,5].getD k.toNat 0
theorem kyT_if (q:Int) (h1:1≤q) (h4:q≤4):(if q.toNat=0 then (0:Int) else if q.toNat - 1=0 then 2 else if q.toNat - 1 - 1=0 then 4 else if q.toNat - 1 - 1 - 1=0 then 1 else 5)=kyT q:=by
 rcases (show q=1∨q=2∨q=3∨q=4 by omega) with rfl | rfl | rfl | rfl<;>rfl
theorem kyT_ok (k:Int) (h1:1≤k) (h4:k≤4):fitB (kyT k) k=true:=by
 have e:k=1∨k=2∨k=3∨k=4:=by omega
 rcases e with rfl | rfl | rfl | rfl<;>decide
def kyU (x:Int):Int:=[1,3].getD x.toNat 0
theorem kyU_ok (x k:Int) (h0:0≤x) (h2:x<2):fitB (kyU x) k=true:=by
 have e:x=0∨x=1:=by omega
 rcases e with rfl | rfl<;>simp [kyU,fitB]
theorem bkeys_ct (d:Dk) (s:Sc) (hs:ScD s):Ct Tryz.prog 9 [d.b,s.d,i64 4] fun r outs=>∃ (K:List (List Cp)) (d' : Dk),(K.length≤4∧∀ k ∈ K,KyOk s k)∧r=kys K∧outs = [Dk.b d']:=by
 have n1:=hs.n1;have n4:=hs.n4
 refine .some2 (De Tryz.func9 [] [] ?_)
 repeat' first|(refine S0 ?_;conv=>whnf)|(refine W6 ?_)|(refine CallOK.io1 (g:=14) (Step.out ?_))|(refine Met.by (g:=14) (next_ct _ _) ?_;rintro q outs ⟨x,d,hx,rfl,rfl⟩)
 have hK:=hx.2.2 (by omega)
 have hK0:=hx.1
 refine CodeOK.loopW hΓ hm [] [14] (by kernel_rfl) (α:=List (List Cp) × Dk) (fun z=>[(0,.loc 0 0),(4,.loc 1 0),(7,.own 2),(8,i64 (x - z.1.length))]) (fun z=>[(0,.var z.2.ls),(1,.var s.l),(2,.arr 85 1 z.1.length fun i=>[cps (z.1.getD i [])])]) 3 (fun z=>(∀ k ∈ z.1,KyOk s k)∧(z.1.length:Int)≤x) (fun z=>(x - z.1.length).toNat) ?_ ?_
 ·refine Again.by ([],d) ⟨nofun,by simp;omega⟩ ?_
  repeat' first|(refine S0 ?_;conv=>whnf)|(refine Vo ?_)|exact T0|(rfl)|(simp;done)|(refine Vm ?_ ?_)
 ·intro ⟨K,d⟩ ⟨hl,hi⟩
  dsimp only at hi hl ⊢
  repeat' first|(refine S0 ?_;conv=>whnf)|(refine Br.d (fun h=>?_) fun h=>?_)
  refine CodeOK.loopW hΓ hm [] [] (by kernel_rfl) (α:=List Cp × Nat × Dk) (fun y=>[(0,.loc 0 0),(4,.loc 1 0),(7,.own 2),(8,i64 (x - K.length)),(9,.loc 3 0),(10,i64 y.2.1)]) (fun y=>[(0,.var y.2.2.ls),(1,.var s.l),(2,.arr 85 1 K.length fun i=>[cps (K.getD i [])]),(3,.var [.own 4]),(4,.arr 87 2 y.1.length fun j=>cpF (y.1.getD j (0,0)))]) 5 (fun y=>CpsOk s y.1 y.2.1∧y.2.1≤s.f.length) (fun y=>s.f.length - y.2.1) ?_ ?_
  ·refine Again.by ([],0,d) (And.intro (CpsOk.nil s 0) (Nat.zero_le _)) ?_
   repeat' first|(refine S0 ?_;conv=>whnf)|(refine Vo ?_)|(refine Vb ?_)|exact T0|(rfl)|(refine Vm ?_ ?_)
  ·intro ⟨k,f,d⟩ ⟨hk,hf⟩
   dsimp only at hk hf ⊢
   repeat' first|(refine S0 ?_;conv=>whnf)|(refine Vo ?_)|(refine Vb ?_)|(refine W6 ?_)|(refine Br.d (fun h=>?_) fun h=>?_)|(refine Br.bnot ?_)|(refine Bm (fun h=>?_) fun h=>?_)|(refine CallOK.io1 (g:=14) (Step.out ?_))|(refine CallOK.io1 (g:=25) (Step.out ?_))|(refine Met.by (g:=14) (next_ct _ _) ?_;rintro q outs ⟨x,d,hx,rfl,rfl⟩)|(refine Met.by (g:=25) (one_ct _ _) ?_;rintro q outs ⟨x,d,hx,rfl,rfl⟩)|(refine Vm ?_ ?_)
   all_goals try have hkd:=(hs.f f (by omega)).2
   all_goals try simp only [Int.toNat_natCast] at *
   all_goals try omega
   ·refine Again.by (k ++ [((f:Int),kyT (s.kind f))],f+1,d) ⟨⟨hk.snoc (by omega) (by omega) _ (kyT_ok _ hkd.1 hkd.2),by dsimp only;omega⟩,by dsimp only;omega⟩ ?_
    repeat' first|(refine S0 ?_;conv=>whnf)|(refine Vo ?_)|(refine Vb ?_)|exact T0|(exact cp_app k (_,_) (congrArg (fun t:Int=>[i64 f,i64 t]) (kyT_if _ hkd.1 hkd.2)))|(refine Vm ?_ ?_)
   ·rename_i w _ hw
    refine Again.by (k ++ [((f:Int),kyU w)],f+1,d) ⟨⟨hk.snoc (by omega) (by omega) _ (kyU_ok _ _ (by omega) (by omega)),by dsimp only;omega⟩,by dsimp only;omega⟩ ?_
    repeat' first|(refine S0 ?_;conv=>whnf)|(refine Vo ?_)|(refine Vb ?_)|exact T0|(refine cp_app k (_,_) ?_)|(refine Vm ?_ ?_)
    refine congrArg (fun t:Int=>cpF ((f:Int),t)) (a₂:=kyU w) ?_
    rcases (show w=0∨w=1 by omega) with rfl | rfl<;>rfl
   ·refine Again.by (k,f+1,d) ⟨⟨hk.up,by dsimp only;omega⟩,by dsimp only;omega⟩ ?_
    repeat' first|(refine S0 ?_;conv=>whnf)|(refine Vo ?_)|(refine Vb ?_)|exact T0
   ·refine CodeOK.cutW hΓ hm [] [] (by kernel_rfl) (α:=List Cp) (fun y=>[(0,.loc 0 0),(4,.loc 1 0),(7,.own 2),(8,i64 (x - K.length)),(9,.loc 3 0)]) (fun y=>[(0,.var d.ls),(1,.var s.l),(2,.arr 85 1 K.length fun i=>[cps (K.getD i [])]),(3,.var [.own 4]),(4,.arr 87 2 y.length fun j=>cpF (y.getD j (0,0)))]) 5 (fun y=>KyOk s y) ?_ ?_
    ·repeat' first|(refine S0 ?_;conv=>whnf)|(refine B0 ?_)
     refine Again.by k ⟨by omega,hk.top⟩ ?_
     repeat' first|(refine S0 ?_;conv=>whnf)|(refine Vo ?_)|exact T0
    ·intro y hy
     repeat' first|(refine S0 ?_;conv=>whnf)|(refine Vb ?_)|(refine W6 ?_)
     refine Again.by (K ++ [y],d) ⟨⟨fun z hz=>?_,by simp;omega⟩,by simp;omega⟩ ?_
     ·rcases List.mem_append.1 hz with h | h
      ·exact hl _ h
      ·rw [List.mem_singleton.1 h];exact hy
     repeat' first|(refine S0 ?_;conv=>whnf)|(refine Vo ?_)|exact T0|(exact ky_app K y)|(simp;omega)|(refine Vm ?_ ?_)
   ·refine CodeOK.cutW hΓ hm [] [] (by kernel_rfl) (α:=List Cp) (fun y=>[(0,.loc 0 0),(4,.loc 1 0),(7,.own 2),(8,i64 (x - K.length)),(9,.loc 3 0)]) (fun y=>[(0,.var d.ls),(1,.var s.l),(2,.arr 85 1 K.length fun i=>[cps (K.getD i [])]),(3,.var [.own 4]),(4,.arr 87 2 y.length fun j=>cpF (y.getD j (0,0)))]) 5 (fun y=>KyOk s y) ?_ ?_
    ·repeat' first|(refine S0 ?_;conv=>whnf)|(refine Br.d (fun h=>?_) fun h=>?_)
     ·refine Again.by [(0,1)] (KyOk.one hs) ?_
      repeat' first|(refine S0 ?_;conv=>whnf)|(refine Vo ?_)|exact T0|(exact ⟨rfl,fun i hi=>by rw [show i=0 from by simpa using hi];rfl⟩)|(refine Vm ?_ ?_)
     ·refine Again.by k ⟨by omega,hk.top⟩ ?_
      repeat' first|(refine S0 ?_;conv=>whnf)|(refine Vo ?_)|exact T0
    ·intro y hy
     repeat' first|(refine S0 ?_;conv=>whnf)|(refine Vb ?_)|(refine W6 ?_)
     refine Again.by (K ++ [y],d) ⟨⟨fun z hz=>?_,by simp;omega⟩,by simp;omega⟩ ?_
     ·rcases List.mem_append.1 hz with h | h
      ·exact hl _ h
      ·rw [List.mem_singleton.1 h];exact hy
     repeat' first|(refine S0 ?_;conv=>whnf)|(refine Vo ?_)|exact T0|(exact ky_app K y)|(simp;omega)|(refine Vm ?_ ?_)
  ·refine Lf2.by K d ⟨by omega,hl⟩ ?_
   repeat' first|(refine S0 ?_;conv=>whnf)|exact T0|exact T1|(refine T2 ?_ ?_)
end Kx
open Go Sx Go.Proofs
namespace Kx
def digTab:Str:=[32,49,50,51,32,49,50,45,32,50,50,52,53,53,32,49,50,54,50,51,32,49,45,50,32,50]
def dig (x:UInt8):UInt8:=digTab.getD (x.toNat - 97) 0
def rightB (s:Str):Bool:=!decide (s = []) && (decide ((s.length:Int)≤64) && decide (letters s=s))
theorem all_let {s:Str} (h:letters s=s):∀ x ∈ s,isLet x=true:=List.filter_eq_self.1 h
theorem phright_of {s:Str} (h:rightB s=true):s≠[]∧s.length≤64∧∀ x ∈ s,isLet x=true:=by
 simp only [rightB,Bool.and_eq_true,Bool.not_eq_true',decide_eq_false_iff_not,decide_eq_true_eq] at h
 have h2:=h.2.1
 exact ⟨h.1,by omega,all_let h.2.2⟩
theorem let_in {x:UInt8} (h:isLet x=true):97≤(x.toNat:Int)∧(x.toNat:Int)≤122:=by
 simpa [isLet] using h
theorem right_ct (s:Str) (hs:s.length≤1000000000):Ct Tryz.prog 250 [.str s] fun r outs=>r = .bool (rightB s)∧outs = []:=by
 refine .det (De Tryz.func250 [] [] ?_)
 repeat' first|(refine S0 ?_;conv=>whnf)|exact T0|(refine Br.d (fun h=>?_) fun h=>?_)|(refine Br.bnot ?_)|(refine T2 ?_ ?_)|(refine K0 ?_)|(refine Met.by (g:=86) (lettersS_ct _ (by first | omega | decide | (simp;done) | (simp;omega))) ?_;rintro q outs ⟨rfl,rfl⟩)
 all_goals try simp only [←token_eq]
 all_goals try (simp_all [rightB];done)
 all_goals
  have e:decide (s = [])=false:=decide_eq_false (by assumption)
  have h2:=h
  simp only [rightB,e,h2,decide_true,decide_false,Bool.not_false,Bool.true_and,Bool.false_and]
  all_goals exact decide_eq_decide.2 Iff.rfl
theorem right_is (s:Str) (hs:s.length≤1000000000) (b:Bool) (h:rightB s=b):Ct Tryz.prog 250 [.str s] fun r outs=>r = .bool b∧outs = []:=h ▸ right_ct s hs
theorem phcode_ct (x:UInt8) (h:isLet x=true):Ct Tryz.prog 251 [u8 x.toNat] fun r outs=>r=u8 (dig x).toNat∧outs = []:=by
 obtain ⟨h1,h2⟩:=let_in h
 refine .det (De Tryz.func251 [] [] ?_)
 repeat' first|(refine S0 ?_;conv=>whnf)|exact T0|(refine W8 ?_)|(refine Vc.om ?_ ?_;focus ((refine ⟨?_,?_⟩;omega;(change _<((26:Nat):Int);omega));done))|(refine T2 ?_ ?_)
 all_goals first
  | trivial
  | exact hb h
  | with_reducible rfl
  | with_reducible exact same_rfl
  | omega
  | ((rw [show ((x.toNat:Int) - 97).toNat=x.toNat - 97 by omega];rfl))
def stepS (o:Str) (d:UInt8) (x:UInt8):Str × UInt8:=if dig x=45 then (o,d) else if dig x≠32∧dig x≠d then (o ++ [dig x],dig x) else (o,dig x)
def sdxL:Str→UInt8→Str→Str
 | o,_,[]=>o
 | o,d,x :: l=>if o.length<4 then sdxL (stepS o d x).1 (stepS o d x).2 l else o
def pad4 (o:Str):Str:=o ++ List.replicate (4 - o.length) 48
def sdx (s:Str):Str:=if rightB s=true then pad4 (sdxL [s.getD 0 0] (dig (s.getD 0 0)) (s.drop 1)) else []
theorem sdxL_end (o:Str) (d:UInt8) (l:Str) (h:l = []∨¬o.length<4):sdxL o d l=o:=by
 cases l with
 | nil=>rfl
 | cons x l=>rcases h with h | h;(· cases h);(· rw [sdxL,if_neg h])
theorem sdxL_step (o:Str) (d:UInt8) (s:Str) (i:Nat) (h:i<s.length) (ho:o.length<4):sdxL o d (s.drop i)=sdxL (stepS o d (s.getD i 0)).1 (stepS o d (s.getD i 0)).2 (s.drop (i+1)):=by
 rw [drop_step s 0 i h,sdxL,if_pos ho]
theorem u8_eq {x:UInt8} {n:Nat} (hn:n<256) (h:(x.toNat:Int)=n):x=UInt8.ofNat n:=UInt8.toNat_inj.1 (by rw [UInt8.toNat_ofNat'];omega)
theorem u8_ne {x y:UInt8} (h:¬(x.toNat:Int)=y.toNat):x≠y:=fun e=>h (by rw [e])
theorem pad_step (o:Str) (h:o.length<4):pad4 (o ++ [48])=pad4 o:=by
 unfold pad4
 rw [List.length_append,show 4 - o.length=(4 - (o.length+1))+1 by omega,List.replicate_succ,List.append_assoc];rfl
theorem pad_end (o:Str) (h:¬o.length<4):pad4 o=o:=by
 unfold pad4
 rw [show 4 - o.length=0 by omega];simp
theorem stepS_skip {o:Str} {e x:UInt8} (h:((dig x).toNat:Int)=45):stepS o e x=(o,e):=if_pos (u8_eq (by decide) h)
theorem stepS_none {o:Str} {e x:UInt8} (h:((dig x).toNat:Int)=32):stepS o e x=(o,dig x):=by
 have h:=u8_eq (n:=32) (by decide) h
 rw [stepS,if_neg (by rw [h];decide),if_neg (fun k=>k.1 (by rw [h];rfl))]
theorem stepS_same {o:Str} {e x:UInt8} (h1:¬((dig x).toNat:Int)=45) (h:((dig x).toNat:Int)=e.toNat):stepS o e x=(o,dig x):=by
 rw [stepS,if_neg (fun k=>h1 (by rw [k];rfl)),if_neg (fun k=>k.2 (UInt8.toNat_inj.1 (by omega)))]
theorem stepS_add {o:Str} {e x:UInt8} (h1:¬((dig x).toNat:Int)=45) (h2:¬((dig x).toNat:Int)=32) (h:¬((dig x).toNat:Int)=e.toNat):stepS o e x=(o ++ [dig x],dig x):=by
 rw [stepS,if_neg (fun k=>h1 (by rw [k];rfl)),if_pos ⟨fun k=>h2 (by rw [k];rfl),u8_ne h⟩]
theorem soundex_ct (s:Str) (hs:s.length≤1000000000):Ct Tryz.prog 222 [.str s] fun r outs=>r = .str (sdx s)∧outs = []:=by
 cases hr:rightB s
 ·refine .det (De Tryz.func222 ord222 [] ?_)
  repeat' first|(refine S0 ?_;conv=>whnf)|exact T0|(with_reducible refine Br.ff ?_)|(refine Met.by (right_is s hs _ hr) ?_;rintro q outs ⟨rfl,rfl⟩)|(refine Br.bnot ?_)|(refine T2 ?_ ?_)|(refine K0 ?_)
  all_goals first
   | trivial
   | exact hb h
   | with_reducible rfl
   | with_reducible exact same_rfl
   | omega
   | ((rw [sdx,hr];rfl))
 obtain ⟨h0,h1,h2⟩:=phright_of hr
 have hp:1≤s.length:=List.length_pos_iff.2 h0
 have hl:∀ i,i<s.length→isLet (s.getD i 0)=true:=fun i hi=>h2 _ (getD_in hi)
 have hx:sdx s=pad4 (sdxL [s.getD 0 0] (dig (s.getD 0 0)) (s.drop 1)):=by rw [sdx,if_pos hr]
 refine .det (De Tryz.func222 ord222 [] ?_)
 repeat' first|(refine S0 ?_;conv=>whnf)|(refine Vo ?_)|exact T0|(with_reducible refine Br.tt ?_)|(refine Met.by (right_is s hs _ hr) ?_;rintro q outs ⟨rfl,rfl⟩)|(refine Met.by (phcode_ct (s.getD 0 0) (hl 0 hp)) ?_;rintro q outs ⟨rfl,rfl⟩)|(refine Br.bnot ?_)|(refine T2 ?_ ?_)|(refine K0 ?_)|(refine K1 ?_)
 all_goals
  refine CodeOK.loopW hΓ hm ord222 [] (by kernel_rfl) (α:=Nat × Str × UInt8) (fun z=>[(3,.own 0),(4,u8 z.2.2.toNat),(0,.str s),(5,i64 z.1)]) (fun z=>[(0,.arr 5 1 z.2.1.length (bytesF z.2.1))]) 1 (fun z=>(1≤z.1∧z.1≤s.length)∧z.2.1.length≤z.1∧sdx s=pad4 (sdxL z.2.1 z.2.2 (s.drop z.1))) (fun z=>s.length - z.1) ?_ ?_
  ·refine Again.by (1,[s.getD 0 0],dig (s.getD 0 0)) ⟨⟨Nat.le_refl _,hp⟩,Nat.le_refl _,hx⟩ ?_
   dsimp only
   repeat' first|(refine S0 ?_;conv=>whnf)|(refine Vo ?_)|exact T0|(exact ⟨rfl,fun i hi=>by obtain rfl:i=0:=(by simpa using hi);rfl⟩)|(refine Vm ?_ ?_)
  ·intro ⟨i,o,e⟩ ⟨⟨h3,h4⟩,h5,h6⟩
   dsimp only at h3 h4 h5 h6 ⊢
   repeat' first|(refine S0 ?_;conv=>whnf)|(refine Vo ?_)|(refine Vb ?_)|(refine W6 ?_)|(refine Met.by (phcode_ct _ (hl i (by omega))) ?_;rintro q outs ⟨rfl,rfl⟩)|(refine Br.d (fun h=>?_) fun h=>?_)|(refine Br.bnot ?_)|(refine K0 ?_)
   all_goals try simp only [Int.toNat_natCast] at *
   ·rw [sdxL_step o e s i (by omega) (by omega),stepS_skip ‹_›] at h6
    refine Again.by (i+1,o,e) ⟨⟨⟨by dsimp only;omega,by dsimp only;omega⟩,by dsimp only;omega,h6⟩,by dsimp only;omega⟩ ?_
    dsimp only
    repeat' first|(refine S0 ?_;conv=>whnf)|(refine Vo ?_)|exact T0
   ·rw [sdxL_step o e s i (by omega) (by omega),stepS_none ‹_›] at h6
    refine Again.by (i+1,o,dig (s.getD i 0)) ⟨⟨⟨by dsimp only;omega,by dsimp only;omega⟩,by dsimp only;omega,h6⟩,by dsimp only;omega⟩ ?_
    dsimp only
    repeat' first|(refine S0 ?_;conv=>whnf)|(refine Vo ?_)|exact T0
   ·rw [sdxL_step o e s i (by omega) (by omega),stepS_same ‹_› ‹_›] at h6
    refine Again.by (i+1,o,dig (s.getD i 0)) ⟨⟨⟨by dsimp only;omega,by dsimp only;omega⟩,by dsimp only;omega,h6⟩,by dsimp only;omega⟩ ?_
    dsimp only
    repeat' first|(refine S0 ?_;conv=>whnf)|(refine Vo ?_)|exact T0
   ·rw [sdxL_step o e s i (by omega) (by omega),stepS_add ‹_› ‹_› ‹_›] at h6
    refine Again.by (i+1,o ++ [dig (s.getD i 0)],dig (s.getD i 0)) ⟨⟨⟨by dsimp only;omega,by dsimp only;omega⟩,by simp;omega,h6⟩,by dsimp only;omega⟩ ?_
    dsimp only
    repeat' first|(refine S0 ?_;conv=>whnf)|(refine Vo ?_)|exact T0|(exact byte_app _ _ rfl)|(refine Vm ?_ ?_)
   all_goals
    rw [sdxL_end o e _ (by first | (left;exact List.drop_eq_nil_of_le (by omega)) | (right;omega))] at h6
    refine CodeOK.loopW hΓ hm ord222 [] (by kernel_rfl) (α:=Str) (fun p=>[(3,.own 0)]) (fun p=>[(0,.arr 5 1 p.length (bytesF p))]) 1 (fun p=>p.length≤s.length+4∧sdx s=pad4 p) (fun p=>4 - p.length) ?_ ?_
    ·refine Again.by o ⟨by omega,h6⟩ ?_
     repeat' first|(refine S0 ?_;conv=>whnf)|(refine Vo ?_)|exact T0
    ·intro p ⟨h7,h8⟩
     repeat' first|(refine S0 ?_;conv=>whnf)|(refine Vb ?_)|(refine Br.d (fun h=>?_) fun h=>?_)
     ·refine Again.by (p ++ [48]) ⟨⟨by simp;omega,by rw [h8,pad_step p (by omega)]⟩,by simp;omega⟩ ?_
      repeat' first|(refine S0 ?_;conv=>whnf)|exact T0|(exact byte_app _ _ rfl)|(refine Vm ?_ ?_)
     ·rw [pad_end p (by omega)] at h8
      refine Lf.by _ ⟨rfl,fun _ _=>rfl⟩ ?_
      repeat' first|(refine S0 ?_;conv=>whnf)|exact T0|(exact h8.symm)|(refine T2 ?_ ?_)
end Kx
open Go Sx Go.Proofs
namespace Kx
def pkey (s:Str):Str:=if (toks s).length=0 then [] else sdx ((toks s).getD 0 [])
theorem ptoksF_len:∀ (l part:Str) (t:Str),t ∈ toksF part l→t.length≤part.length+l.length
 | [],part,t,h=>by
   simp only [toksF] at h
   split at h
   ·cases h
   ·rw [List.mem_singleton.1 h];simp
 | x :: l,part,t,h=>by
   simp only [toksF] at h
   split at h
   ·split at h
    ·have:=ptoksF_len l [] t h;simp at this ⊢;omega
    ·rcases List.mem_cons.1 h with rfl | h
     ·simp
     ·have:=ptoksF_len l [] t h;simp at this ⊢;omega
   ·have:=ptoksF_len l _ t h;simp at this ⊢;omega
theorem ptoks_len {s t:Str} (h:t ∈ toks s):t.length≤s.length:=by have:=ptoksF_len s [] t h;simpa using this
theorem ptok0_len {s:Str} (h:¬((toks s).length:Int)=0):((toks s).getD 0 []).length≤s.length:=ptoks_len (getD_in (by omega))
theorem pkey_ct (s:Str) (hs:s.length≤1000000000):Ct Tryz.prog 181 [.str s] fun r outs=>r = .str (pkey s)∧outs = []:=by
 refine .det (De Tryz.func181 [] [] ?_)
 repeat' first|(refine S0 ?_;conv=>whnf)|(refine Vo ?_)|exact T0|(refine Met.by (soundex_ct _ (Nat.le_trans (ptok0_len ‹_›) hs)) ?_;rintro q outs ⟨rfl,rfl⟩)|(refine Br.d (fun h=>?_) fun h=>?_)|(refine T2 ?_ ?_)|(refine K0 ?_)|(refine Met.by (g:=209) (tokens_ct _ (by first | omega | decide | (simp;done) | (simp;omega))) ?_;rintro q outs ⟨rfl,rfl⟩)
 all_goals first
  | trivial
  | exact hb h
  | with_reducible rfl
  | with_reducible exact same_rfl
  | omega
  | ((exact (if_pos (by omega)).symm))
  | ((exact (if_neg (by omega)).symm))
theorem sdxL_len:∀ (l o:Str) (d:UInt8),o.length≤4→(sdxL o d l).length≤4
 | [],o,_,h=>by simpa [sdxL] using h
 | x :: l,o,d,h=>by
   unfold sdxL
   split
   ·refine sdxL_len l _ _ ?_
    unfold stepS
    split
    ·exact h
    ·split
     ·simp;omega
     ·exact h
   ·exact h
theorem sdx_len (s:Str):(sdx s).length≤4:=by
 unfold sdx
 split
 ·have:=sdxL_len (s.drop 1) [s.getD 0 0] (dig (s.getD 0 0)) (by simp)
  unfold pad4
  rw [List.length_append,List.length_replicate];omega
 ·simp
theorem begin_ct (s:Str) (n:Int) (hn:0≤n) (hs:s.length≤1000000000):Ct Tryz.prog 183 [.str s,i64 n] fun r outs=>∃ t:Str,t.length≤s.length∧r = .str t∧outs = []:=by
 refine .some (De Tryz.func183 [] [] ?_)
 repeat' first|(refine S0 ?_;conv=>whnf)|(refine Vo ?_)
 refine Lf.by ((s.take (min n s.length).toNat).drop (0:Int).toNat) (by simp;omega) ?_
 repeat' first|(refine S0 ?_;conv=>whnf)|exact T0|(refine T2 ?_ ?_)
theorem und220:Tryz.prog.underlying 220=some (.map 3 164):=by kernel_rfl
theorem und3:Tryz.prog.underlying 3=some (.int .i64):=by kernel_rfl
theorem ck3 (x:Bool) (k:Int) (w:World):(Instr.checkKey x 10000 3 (.int .i64 k)).run Tryz.prog w = .ok () w:=by
 show (Instr.checkKey x (9999+1) 3 (.int .i64 k)).run Tryz.prog w = .ok () w
 rw [Instr.checkKey]
 simp only [Sem.run_bind,run_underlying und3,Result.andThen_ok]
 rfl
theorem tm_up (w:World) (b:Nat) (es:Array MapEntry) (ck:Nat) (k:Int) (v:Value) (hb:w.heap[b]? = some (.map es ck)) (hn:Instr.findNow (.int .i64) (.int .i64 k) es.toList 0=some none) :
 (Instr.mapUpdate 220 (.map (some b)) (.int .i64 k) v).run Tryz.prog w = .ok () { w with heap:=w.heap.setIfInBounds b (.map (es.push { key:=.int .i64 k,val:=v,born:=ck }) (ck+1)) }:=by
 have hg:(getObj b).run Tryz.prog w = .ok (.map es ck) w:=by simp [getObj,Sem.run,hb]
 have hf:(Instr.findKey 3 (.int .i64 k) es.toList).run Tryz.prog w = .ok none w:=by
  simp [Instr.findKey,run_underlying und3,hn]
 simp only [Instr.mapUpdate,Sem.run_bind,run_underlying und220,hg,ck3,hf,Result.andThen_ok]
 simp [setObj,Sem.run,hb]
theorem tm_get (w:World) (b:Nat) (es:Array MapEntry) (ck:Nat) (k:Int) (i:Nat) (v:Value) (hb:w.heap[b]? = some (.map es ck)) (hn:Instr.findNow (.int .i64) (.int .i64 k) es.toList 0=some (some (i,v))) :
 (Instr.lookup 220 (.map (some b)) (.int .i64 k) false).run Tryz.prog w = .ok v w:=by
 have hg:(getObj b).run Tryz.prog w = .ok (.map es ck) w:=by simp [getObj,Sem.run,hb]
 have hf:(Instr.findKey 3 (.int .i64 k) es.toList).run Tryz.prog w = .ok (some (i,v)) w:=by
  simp [Instr.findKey,run_underlying und3,hn]
 simp [Instr.lookup,run_underlying und220,hg,ck3,hf]
def tE1:Array MapEntry:=#[⟨.int .i64 1,.func (.func 180) #[] #[],0⟩]
def tE2:Array MapEntry:=tE1.push ⟨.int .i64 2,.func (.func 181) #[] #[],1⟩
def tE3:Array MapEntry:=tE2.push ⟨.int .i64 3,.func (.func 182) #[] #[],2⟩
def tE4:Array MapEntry:=tE3.push ⟨.int .i64 4,.func (.func 184) #[] #[],3⟩
def tE5:Array MapEntry:=tE4.push ⟨.int .i64 5,.func (.func 185) #[] #[],4⟩
theorem gp_new0 (h:Array Obj) (a:Obj):(h.push a)[h.size]? = some a:=by rw [Array.getElem?_push,if_pos rfl]
theorem push_set (h:Array Obj) (a b:Obj):(h.push a).setIfInBounds h.size b=h.push b:=by
 apply Array.ext
 ·simp
 ·intro i h1 h2
  simp only [Array.size_setIfInBounds,Array.size_push] at h1
  rw [Array.getElem_setIfInBounds (by simpa using h1),Array.getElem_push]
  split
  ·rw [Array.getElem_push,dif_neg (by omega)]
  ·rw [Array.getElem_push,dif_pos (by omega),dif_pos (by omega)]
theorem alloc_set (W:World) (a b:Obj):({ W.alloc a with heap:=(W.alloc a).heap.setIfInBounds W.heap.size b }:World)=W.alloc b :=
 congrArg (fun h=>({ W with heap:=h }:World)) (push_set W.heap a b)
theorem alloc_at (W:World) (a:Obj):(W.alloc a).heap[W.heap.size]? = some a:=gp_new0 _ _
theorem tm1 (W:World):(Instr.mapUpdate 220 (.map (some W.heap.size)) (.int .i64 1) (.func (.func 180) #[] #[])).run Tryz.prog (W.alloc (.map #[] 0)) = .ok () (W.alloc (.map tE1 1)):=by
 rw [tm_up _ _ _ _ _ _ (alloc_at _ _) rfl,alloc_set];rfl
theorem tm2 (W:World):(Instr.mapUpdate 220 (.map (some W.heap.size)) (.int .i64 2) (.func (.func 181) #[] #[])).run Tryz.prog (W.alloc (.map tE1 1)) = .ok () (W.alloc (.map tE2 2)):=by
 rw [tm_up _ _ _ _ _ _ (alloc_at _ _) rfl,alloc_set];rfl
theorem tm3 (W:World):(Instr.mapUpdate 220 (.map (some W.heap.size)) (.int .i64 3) (.func (.func 182) #[] #[])).run Tryz.prog (W.alloc (.map tE2 2)) = .ok () (W.alloc (.map tE3 3)):=by
 rw [tm_up _ _ _ _ _ _ (alloc_at _ _) rfl,alloc_set];rfl
theorem tm4 (W:World):(Instr.mapUpdate 220 (.map (some W.heap.size)) (.int .i64 4) (.func (.func 184) #[] #[])).run Tryz.prog (W.alloc (.map tE3 3)) = .ok () (W.alloc (.map tE4 4)):=by
 rw [tm_up _ _ _ _ _ _ (alloc_at _ _) rfl,alloc_set];rfl
theorem tm5 (W:World):(Instr.mapUpdate 220 (.map (some W.heap.size)) (.int .i64 5) (.func (.func 185) #[] #[])).run Tryz.prog (W.alloc (.map tE4 4)) = .ok () (W.alloc (.map tE5 5)):=by
 rw [tm_up _ _ _ _ _ _ (alloc_at _ _) rfl,alloc_set];rfl
set_option maxHeartbeats 4000000 in
set_option maxRecDepth 1000000 in
theorem transforms_law (W:World):Calls Tryz.prog 145 #[] W fun e w'=>e = .returned (.map (some W.heap.size))∧w' = W.alloc (.map tE5 5):=by
 have hmm:∀ w:World,(Instr.makeMap 220 none).run Tryz.prog w = .ok (.map (some w.heap.size)) (w.alloc (.map #[] 0)):=fun _=>rfl
 have h1:=tm1 W;have h2:=tm2 W;have h3:=tm3 W;have h4:=tm4 W;have h5:=tm5 W
 go_enter Tryz.func145,Tryz.ntmps145
 go_wp2
 go_ret
 exact ⟨rfl,rfl⟩
end Kx
open Go Sx Go.Proofs
namespace Kx
theorem str_calls {g:Nat} {s:Str} {n:Nat} (h:Ct Tryz.prog g [.str s] fun r outs=>∃ t:Str,t.length≤n∧r = .str t∧outs = []) (W:World) (hl:Laid Tryz.prog W.heap fun _=>False) :
 Calls Tryz.prog g #[.string ⟨s.toArray⟩] W fun e w'=>∃ t:Str,t.length≤n∧e = .returned (.string ⟨t.toArray⟩)∧RowKit.Below W.heap.size W w':=by
 have:=h.ok W (fun _=>False) #[.string ⟨s.toArray⟩] [] (fun _ hb=>hb.elim) (OdT.of_rd _ _ (rdtC (by simp [Rd]) rdtN)) List.nodup_nil ⟨by simp,fun x hx g hg=>⟨(hl x hx g hg).1,by simp,(hl x hx g hg).2.2⟩⟩
 refine this.mono ?_
 rintro e w' ⟨v,r,outs,S',F',rfl,⟨t,ht,rfl,rfl⟩,hB,hO⟩
 simp only [OdT] at hO
 obtain ⟨F1,F2,_,hv,_⟩:=hO
 simp only [Od,Rd] at hv
 exact ⟨t,ht,by rw [hv.1],hB.os,hB.tape,hB.output,hB.size,fun k hk=>hB.old k hk (by simp)⟩
theorem id_ct (s:Str):Ct Tryz.prog 180 [.str s] fun r outs=>r = .str s∧outs = []:=by
 refine .det (De Tryz.func180 [] [] ?_)
 repeat' first|(refine S0 ?_;conv=>whnf)|exact T0|(refine T2 ?_ ?_)
theorem beg1_ct (s:Str) (hs:s.length≤64):Ct Tryz.prog 182 [.str s] fun r outs=>∃ t:Str,t.length≤64∧r = .str t∧outs = []:=by
 refine .some (De Tryz.func182 [] [] ?_)
 repeat' first|(refine S0 ?_;conv=>whnf)|(refine Met.by (begin_ct _ _ (by omega) (by omega)) ?_;rintro q outs ⟨t,ht,rfl,rfl⟩)|(refine K0 ?_)
 refine Lf.by t (by omega) ?_
 repeat' first|(refine S0 ?_;conv=>whnf)|exact T0|(refine T2 ?_ ?_)
theorem beg4_ct (s:Str) (hs:s.length≤64):Ct Tryz.prog 184 [.str s] fun r outs=>∃ t:Str,t.length≤64∧r = .str t∧outs = []:=by
 refine .some (De Tryz.func184 [] [] ?_)
 repeat' first|(refine S0 ?_;conv=>whnf)|(refine Met.by (begin_ct _ _ (by omega) (by omega)) ?_;rintro q outs ⟨t,ht,rfl,rfl⟩)|(refine K0 ?_)
 refine Lf.by t (by omega) ?_
 repeat' first|(refine S0 ?_;conv=>whnf)|exact T0|(refine T2 ?_ ?_)
theorem tm_len (g:Nat) (hg:g=180∨g=181∨g=182∨g=184∨g=185) (s:Str) (hs:s.length≤64):Ct Tryz.prog g [.str s] fun r outs=>∃ t:Str,t.length≤64∧r = .str t∧outs = []:=by
 rcases hg with rfl | rfl | rfl | rfl | rfl
 ·exact (id_ct s).mono fun r outs ⟨h1,h2⟩=>⟨s,hs,h1,h2⟩
 ·refine (pkey_ct s (by omega)).mono fun r outs ⟨h1,h2⟩=>⟨_,?_,h1,h2⟩
  unfold pkey
  split
  ·exact Nat.zero_le _
  ·exact Nat.le_trans (sdx_len _) (by omega)
 ·exact beg1_ct s hs
 ·exact beg4_ct s hs
 ·refine (number_ct s (by omega)).mono fun r outs ⟨h1,h2⟩=>⟨_,?_,h1,h2⟩
  unfold numberS
  by_cases h0:(numbers (toks s)).length=0
  ·rw [List.length_eq_zero_iff.1 h0];exact Nat.zero_le _
  ·exact Nat.le_trans (ptoks_len (List.mem_filter.1 (getD_in (l:=numbers (toks s)) (by omega))).1) hs
theorem cell_at {W:World} {B j:Nat} {vs:Array Value} {t:TypeId} {v:Value} (h:W.heap[B]? = some (.cells vs t (0,0))) (hv:vs[j]? = some v):W.cell? ⟨B,j,none⟩=some v:=by
 simp [World.cell?,h,hv]
def PS (W:World) (f t:Int) (b o n cap i:Nat) (x:ByteArray) (w' : World):Prop:=w'.cell? ⟨W.heap.size,0,none⟩=some (.int .i64 f)∧w'.cell? ⟨W.heap.size,1,none⟩=some (.int .i64 t)∧w'.cell? ⟨W.heap.size+1,2,none⟩=some (.slice (some ⟨b,o,none⟩) n cap)∧w'.cell? ⟨b,i,none⟩=some (.string x)∧RowKit.Below W.heap.size W w'∧W.heap.size+2≤w'.heap.size∧b<W.heap.size
theorem PS.drew {W:World} {f t:Int} {b o n cap i:Nat} {x:ByteArray} {w' : World} (h:PS W f t b o n cap i x w'):PS W f t b o n cap i x w'.drew :=
 ⟨h.1,h.2.1,h.2.2.1,h.2.2.2.1,⟨h.2.2.2.2.1.os,h.2.2.2.2.1.tape,h.2.2.2.2.1.output,h.2.2.2.2.1.size,h.2.2.2.2.1.block⟩,h.2.2.2.2.2⟩
theorem PS.below {W:World} {f t:Int} {b o n cap i:Nat} {x:ByteArray} {w' w2:World} (h:PS W f t b o n cap i x w') (hB:RowKit.Below w'.heap.size w' w2):PS W f t b o n cap i x w2:=by
 obtain ⟨h1,h2,h3,h4,h5,h6,h7⟩:=h
 have hc:∀ k j,k<w'.heap.size→w2.cell? ⟨k,j,none⟩=w'.cell? ⟨k,j,none⟩:=fun k j hk=>by
  have:=hB.block k hk
  simp only [World.cell?];rw [this]
 refine ⟨(hc _ _ (by omega)).trans h1,(hc _ _ (by omega)).trans h2,(hc _ _ (by omega)).trans h3,(hc _ _ (by omega)).trans h4,⟨hB.os.trans h5.os,hB.tape.trans h5.tape,hB.output.trans h5.output,Nat.le_trans h5.size hB.size,fun k hk=>(hB.block k (Nat.lt_of_lt_of_le hk h5.size)).trans (h5.block k hk)⟩,Nat.le_trans h6 hB.size,h7⟩
theorem PS.new (W:World) (f t id ver:Int) (b o n cap i:Nat) (x:ByteArray) (hb:b<W.heap.size) (hc:W.cell? ⟨b,i,none⟩=some (.string x)):PS W f t b o n cap i x ((W.alloc (.cells #[.int .i64 f,.int .i64 t] 87)).alloc (.cells #[.int .i64 id,.int .i64 ver,.slice (some ⟨b,o,none⟩) n cap] 68)):=by
 have h1:((W.heap.push (.cells #[.int .i64 f,.int .i64 t] 87)).push (.cells #[.int .i64 id,.int .i64 ver,.slice (some ⟨b,o,none⟩) n cap] 68))[W.heap.size]? = some (.cells #[.int .i64 f,.int .i64 t] 87):=by
  rw [Array.getElem?_push,if_neg (by simp),Array.getElem?_push,if_pos rfl]
 have h2:((W.heap.push (.cells #[.int .i64 f,.int .i64 t] 87)).push (.cells #[.int .i64 id,.int .i64 ver,.slice (some ⟨b,o,none⟩) n cap] 68))[W.heap.size+1]? = some (.cells #[.int .i64 id,.int .i64 ver,.slice (some ⟨b,o,none⟩) n cap] 68):=by
  rw [Array.getElem?_push,if_pos (by simp)]
 have h3:∀ k,k<W.heap.size→((W.heap.push (.cells #[.int .i64 f,.int .i64 t] 87)).push (.cells #[.int .i64 id,.int .i64 ver,.slice (some ⟨b,o,none⟩) n cap] 68))[k]? = W.heap[k]?:=fun k hk=>by
  rw [Array.getElem?_push,if_neg (by simp;omega),Array.getElem?_push,if_neg (by omega)]
 have hz:W.heap.size+2≤((W.alloc (.cells #[.int .i64 f,.int .i64 t] 87)).alloc (.cells #[.int .i64 id,.int .i64 ver,.slice (some ⟨b,o,none⟩) n cap] 68)).heap.size:=by
  show _≤((W.heap.push _).push _).size
  simp
 refine ⟨?_,?_,?_,?_,⟨rfl,rfl,rfl,by omega,h3⟩,hz,hb⟩
 ·exact cell_at (W:=(W.alloc _).alloc _) h1 rfl
 ·exact cell_at (W:=(W.alloc _).alloc _) h1 rfl
 ·exact cell_at (W:=(W.alloc _).alloc _) h2 rfl
 ·have:((W.alloc (.cells #[.int .i64 f,.int .i64 t] 87)).alloc (.cells #[.int .i64 id,.int .i64 ver,.slice (some ⟨b,o,none⟩) n cap] 68)).heap[b]? = W.heap[b]?:=h3 b hb
  simp only [World.cell?] at hc ⊢
  rw [this];exact hc
set_option maxHeartbeats 4000000 in
set_option maxRecDepth 1000000 in
theorem part_law_1 (f:Nat) (t id ver:Int) (b o n cap:Nat) (x:ByteArray) (W:World) (hb:b<W.heap.size) (hc:W.cell? ⟨b,o+f,none⟩=some (.string x)) (hf:f<n)
 (c0:∀ w',PS W f t b o n cap (o+f) x w'→Calls Tryz.prog 180 #[.string x] w' fun e w2=>∃ u:Str,u.length≤64∧e = .returned (.string ⟨u.toArray⟩)∧PS W f t b o n cap (o+f) x w2)
 (tl:∀ w',PS W f t b o n cap (o+f) x w'→Calls Tryz.prog 145 #[] w' fun e w2=>∃ m,e = .returned (.map (some m))∧PS W f t b o n cap (o+f) x w2∧(Instr.lookup 220 (.map (some m)) (.int .i64 t) false).run Tryz.prog w2 = .ok (.func (.func 180) #[] #[]) w2∧(Instr.lookup 220 (.map (some m)) (.int .i64 t) false).run Tryz.prog w2.drew = .ok (.func (.func 180) #[] #[]) w2.drew) :
 Calls Tryz.prog 105 #[.agg #[.int .i64 f,.int .i64 t],.agg #[.int .i64 id,.int .i64 ver,.slice (some ⟨b,o,none⟩) n cap]] W fun e w'=>∃ t:Str,t.length≤64∧e = .returned (.string ⟨t.toArray⟩)∧RowKit.Below W.heap.size W w':=by
 have mixed:=hm
 have h0:=PS.new W f t id ver b o n cap (o+f) x hb hc
 go_enter Tryz.func105,Tryz.ntmps105
 go_wp2
 ·go_ret
  exact ⟨[],by simp,rfl,h0.2.2.2.2.1⟩
 go_region_held2 (fun w'=>w'.cell? ⟨W.heap.size,0,none⟩=some (.int .i64 f)∧w'.cell? ⟨W.heap.size,1,none⟩=some (.int .i64 t)∧w'.cell? ⟨W.heap.size+1,2,none⟩=some (.slice (some ⟨b,o,none⟩) n cap)∧w'.cell? ⟨b,o+f,none⟩=some (.string x)∧RowKit.Below W.heap.size W w'∧W.heap.size+2≤w'.heap.size∧b<W.heap.size)
  (first | exact h0 | exact h0.drew | exact hS1 | exact hS1.drew | exact hS2 | exact hS2.drew)
  (first
  | (go_at_call 145;refine (tl _ (by first | exact h0 | exact h0.drew | assumption)).mono ?_;rintro e w1 ⟨m,rfl,hS1,l1,l2⟩)
  | (go_at_call 180;refine (c0 _ (by first | exact hS1 | exact hS1.drew | exact hS1.drew.drew | assumption)).mono ?_;rintro e w2 ⟨u,hu,rfl,hS2⟩))
 go_wp2
 go_ret
 exact ⟨u,hu,rfl,hS2.2.2.2.2.1⟩
set_option maxHeartbeats 4000000 in
set_option maxRecDepth 1000000 in
theorem part_law_2 (f:Nat) (t id ver:Int) (b o n cap:Nat) (x:ByteArray) (W:World) (hb:b<W.heap.size) (hc:W.cell? ⟨b,o+f,none⟩=some (.string x)) (hf:f<n)
 (c0:∀ w',PS W f t b o n cap (o+f) x w'→Calls Tryz.prog 181 #[.string x] w' fun e w2=>∃ u:Str,u.length≤64∧e = .returned (.string ⟨u.toArray⟩)∧PS W f t b o n cap (o+f) x w2)
 (tl:∀ w',PS W f t b o n cap (o+f) x w'→Calls Tryz.prog 145 #[] w' fun e w2=>∃ m,e = .returned (.map (some m))∧PS W f t b o n cap (o+f) x w2∧(Instr.lookup 220 (.map (some m)) (.int .i64 t) false).run Tryz.prog w2 = .ok (.func (.func 181) #[] #[]) w2∧(Instr.lookup 220 (.map (some m)) (.int .i64 t) false).run Tryz.prog w2.drew = .ok (.func (.func 181) #[] #[]) w2.drew) :
 Calls Tryz.prog 105 #[.agg #[.int .i64 f,.int .i64 t],.agg #[.int .i64 id,.int .i64 ver,.slice (some ⟨b,o,none⟩) n cap]] W fun e w'=>∃ t:Str,t.length≤64∧e = .returned (.string ⟨t.toArray⟩)∧RowKit.Below W.heap.size W w':=by
 have mixed:=hm
 have h0:=PS.new W f t id ver b o n cap (o+f) x hb hc
 go_enter Tryz.func105,Tryz.ntmps105
 go_wp2
 ·go_ret
  exact ⟨[],by simp,rfl,h0.2.2.2.2.1⟩
 go_region_held2 (fun w'=>w'.cell? ⟨W.heap.size,0,none⟩=some (.int .i64 f)∧w'.cell? ⟨W.heap.size,1,none⟩=some (.int .i64 t)∧w'.cell? ⟨W.heap.size+1,2,none⟩=some (.slice (some ⟨b,o,none⟩) n cap)∧w'.cell? ⟨b,o+f,none⟩=some (.string x)∧RowKit.Below W.heap.size W w'∧W.heap.size+2≤w'.heap.size∧b<W.heap.size)
  (first | exact h0 | exact h0.drew | exact hS1 | exact hS1.drew | exact hS2 | exact hS2.drew)
  (first
  | (go_at_call 145;refine (tl _ (by first | exact h0 | exact h0.drew | assumption)).mono ?_;rintro e w1 ⟨m,rfl,hS1,l1,l2⟩)
  | (go_at_call 181;refine (c0 _ (by first | exact hS1 | exact hS1.drew | exact hS1.drew.drew | assumption)).mono ?_;rintro e w2 ⟨u,hu,rfl,hS2⟩))
 go_wp2
 go_ret
 exact ⟨u,hu,rfl,hS2.2.2.2.2.1⟩
set_option maxHeartbeats 4000000 in
set_option maxRecDepth 1000000 in
theorem part_law_3 (f:Nat) (t id ver:Int) (b o n cap:Nat) (x:ByteArray) (W:World) (hb:b<W.heap.size) (hc:W.cell? ⟨b,o+f,none⟩=some (.string x)) (hf:f<n)
 (c0:∀ w',PS W f t b o n cap (o+f) x w'→Calls Tryz.prog 182 #[.string x] w' fun e w2=>∃ u:Str,u.length≤64∧e = .returned (.string ⟨u.toArray⟩)∧PS W f t b o n cap (o+f) x w2)
 (tl:∀ w',PS W f t b o n cap (o+f) x w'→Calls Tryz.prog 145 #[] w' fun e w2=>∃ m,e = .returned (.map (some m))∧PS W f t b o n cap (o+f) x w2∧(Instr.lookup 220 (.map (some m)) (.int .i64 t) false).run Tryz.prog w2 = .ok (.func (.func 182) #[] #[]) w2∧(Instr.lookup 220 (.map (some m)) (.int .i64 t) false).run Tryz.prog w2.drew = .ok (.func (.func 182) #[] #[]) w2.drew) :
 Calls Tryz.prog 105 #[.agg #[.int .i64 f,.int .i64 t],.agg #[.int .i64 id,.int .i64 ver,.slice (some ⟨b,o,none⟩) n cap]] W fun e w'=>∃ t:Str,t.length≤64∧e = .returned (.string ⟨t.toArray⟩)∧RowKit.Below W.heap.size W w':=by
 have mixed:=hm
 have h0:=PS.new W f t id ver b o n cap (o+f) x hb hc
 go_enter Tryz.func105,Tryz.ntmps105
 go_wp2
 ·go_ret
  exact ⟨[],by simp,rfl,h0.2.2.2.2.1⟩
 go_region_held2 (fun w'=>w'.cell? ⟨W.heap.size,0,none⟩=some (.int .i64 f)∧w'.cell? ⟨W.heap.size,1,none⟩=some (.int .i64 t)∧w'.cell? ⟨W.heap.size+1,2,none⟩=some (.slice (some ⟨b,o,none⟩) n cap)∧w'.cell? ⟨b,o+f,none⟩=some (.string x)∧RowKit.Below W.heap.size W w'∧W.heap.size+2≤w'.heap.size∧b<W.heap.size)
  (first | exact h0 | exact h0.drew | exact hS1 | exact hS1.drew | exact hS2 | exact hS2.drew)
  (first
  | (go_at_call 145;refine (tl _ (by first | exact h0 | exact h0.drew | assumption)).mono ?_;rintro e w1 ⟨m,rfl,hS1,l1,l2⟩)
  | (go_at_call 182;refine (c0 _ (by first | exact hS1 | exact hS1.drew | exact hS1.drew.drew | assumption)).mono ?_;rintro e w2 ⟨u,hu,rfl,hS2⟩))
 go_wp2
 go_ret
 exact ⟨u,hu,rfl,hS2.2.2.2.2.1⟩
set_option maxHeartbeats 4000000 in
set_option maxRecDepth 1000000 in
theorem part_law_4 (f:Nat) (t id ver:Int) (b o n cap:Nat) (x:ByteArray) (W:World) (hb:b<W.heap.size) (hc:W.cell? ⟨b,o+f,none⟩=some (.string x)) (hf:f<n)
 (c0:∀ w',PS W f t b o n cap (o+f) x w'→Calls Tryz.prog 184 #[.string x] w' fun e w2=>∃ u:Str,u.length≤64∧e = .returned (.string ⟨u.toArray⟩)∧PS W f t b o n cap (o+f) x w2)
 (tl:∀ w',PS W f t b o n cap (o+f) x w'→Calls Tryz.prog 145 #[] w' fun e w2=>∃ m,e = .returned (.map (some m))∧PS W f t b o n cap (o+f) x w2∧(Instr.lookup 220 (.map (some m)) (.int .i64 t) false).run Tryz.prog w2 = .ok (.func (.func 184) #[] #[]) w2∧(Instr.lookup 220 (.map (some m)) (.int .i64 t) false).run Tryz.prog w2.drew = .ok (.func (.func 184) #[] #[]) w2.drew) :
 Calls Tryz.prog 105 #[.agg #[.int .i64 f,.int .i64 t],.agg #[.int .i64 id,.int .i64 ver,.slice (some ⟨b,o,none⟩) n cap]] W fun e w'=>∃ t:Str,t.length≤64∧e = .returned (.string ⟨t.toArray⟩)∧RowKit.Below W.heap.size W w':=by
 have mixed:=hm
 have h0:=PS.new W f t id ver b o n cap (o+f) x hb hc
 go_enter Tryz.func105,Tryz.ntmps105
 go_wp2
 ·go_ret
  exact ⟨[],by simp,rfl,h0.2.2.2.2.1⟩
 go_region_held2 (fun w'=>w'.cell? ⟨W.heap.size,0,none⟩=some (.int .i64 f)∧w'.cell? ⟨W.heap.size,1,none⟩=some (.int .i64 t)∧w'.cell? ⟨W.heap.size+1,2,none⟩=some (.slice (some ⟨b,o,none⟩) n cap)∧w'.cell? ⟨b,o+f,none⟩=some (.string x)∧RowKit.Below W.heap.size W w'∧W.heap.size+2≤w'.heap.size∧b<W.heap.size)
  (first | exact h0 | exact h0.drew | exact hS1 | exact hS1.drew | exact hS2 | exact hS2.drew)
  (first
  | (go_at_call 145;refine (tl _ (by first | exact h0 | exact h0.drew | assumption)).mono ?_;rintro e w1 ⟨m,rfl,hS1,l1,l2⟩)
  | (go_at_call 184;refine (c0 _ (by first | exact hS1 | exact hS1.drew | exact hS1.drew.drew | assumption)).mono ?_;rintro e w2 ⟨u,hu,rfl,hS2⟩))
 go_wp2
 go_ret
 exact ⟨u,hu,rfl,hS2.2.2.2.2.1⟩
set_option maxHeartbeats 4000000 in
set_option maxRecDepth 1000000 in
theorem part_law_5 (f:Nat) (t id ver:Int) (b o n cap:Nat) (x:ByteArray) (W:World) (hb:b<W.heap.size) (hc:W.cell? ⟨b,o+f,none⟩=some (.string x)) (hf:f<n)
 (c0:∀ w',PS W f t b o n cap (o+f) x w'→Calls Tryz.prog 185 #[.string x] w' fun e w2=>∃ u:Str,u.length≤64∧e = .returned (.string ⟨u.toArray⟩)∧PS W f t b o n cap (o+f) x w2)
 (tl:∀ w',PS W f t b o n cap (o+f) x w'→Calls Tryz.prog 145 #[] w' fun e w2=>∃ m,e = .returned (.map (some m))∧PS W f t b o n cap (o+f) x w2∧(Instr.lookup 220 (.map (some m)) (.int .i64 t) false).run Tryz.prog w2 = .ok (.func (.func 185) #[] #[]) w2∧(Instr.lookup 220 (.map (some m)) (.int .i64 t) false).run Tryz.prog w2.drew = .ok (.func (.func 185) #[] #[]) w2.drew) :
 Calls Tryz.prog 105 #[.agg #[.int .i64 f,.int .i64 t],.agg #[.int .i64 id,.int .i64 ver,.slice (some ⟨b,o,none⟩) n cap]] W fun e w'=>∃ t:Str,t.length≤64∧e = .returned (.string ⟨t.toArray⟩)∧RowKit.Below W.heap.size W w':=by
 have mixed:=hm
 have h0:=PS.new W f t id ver b o n cap (o+f) x hb hc
 go_enter Tryz.func105,Tryz.ntmps105
 go_wp2
 ·go_ret
  exact ⟨[],by simp,rfl,h0.2.2.2.2.1⟩
 go_region_held2 (fun w'=>w'.cell? ⟨W.heap.size,0,none⟩=some (.int .i64 f)∧w'.cell? ⟨W.heap.size,1,none⟩=some (.int .i64 t)∧w'.cell? ⟨W.heap.size+1,2,none⟩=some (.slice (some ⟨b,o,none⟩) n cap)∧w'.cell? ⟨b,o+f,none⟩=some (.string x)∧RowKit.Below W.heap.size W w'∧W.heap.size+2≤w'.heap.size∧b<W.heap.size)
  (first | exact h0 | exact h0.drew | exact hS1 | exact hS1.drew | exact hS2 | exact hS2.drew)
  (first
  | (go_at_call 145;refine (tl _ (by first | exact h0 | exact h0.drew | assumption)).mono ?_;rintro e w1 ⟨m,rfl,hS1,l1,l2⟩)
  | (go_at_call 185;refine (c0 _ (by first | exact hS1 | exact hS1.drew | exact hS1.drew.drew | assumption)).mono ?_;rintro e w2 ⟨u,hu,rfl,hS2⟩))
 go_wp2
 go_ret
 exact ⟨u,hu,rfl,hS2.2.2.2.2.1⟩
theorem laid_below {W w' : World} (hl:Laid Tryz.prog W.heap fun _=>False) (h:RowKit.Below W.heap.size W w'):Laid Tryz.prog w'.heap fun _=>False:=fun x hx g hg=>by
 obtain ⟨h1,h2,h3⟩:=hl x hx g hg
 refine ⟨Nat.lt_of_lt_of_le h1 h.size,h2,fun j hj=>?_⟩
 rw [←h3 j hj]
 unfold cellAt
 rw [h.block g h1]
theorem tm_law (W:World) (f t:Int) (b o n cap i g k:Nat) (x:ByteArray) (hg:Instr.findNow (.int .i64) (.int .i64 t) tE5.toList 0=some (some (k,.func (.func g) #[] #[]))) (w' : World) (h:PS W f t b o n cap i x w') :
 Calls Tryz.prog 145 #[] w' fun e w2=>∃ m,e = .returned (.map (some m))∧PS W f t b o n cap i x w2∧(Instr.lookup 220 (.map (some m)) (.int .i64 t) false).run Tryz.prog w2 = .ok (.func (.func g) #[] #[]) w2∧(Instr.lookup 220 (.map (some m)) (.int .i64 t) false).run Tryz.prog w2.drew = .ok (.func (.func g) #[] #[]) w2.drew:=by
 refine (transforms_law w').mono ?_
 rintro e w2 ⟨rfl,rfl⟩
 refine ⟨_,rfl,h.below ⟨rfl,rfl,rfl,?_,fun k hk=>?_⟩,tm_get _ _ _ _ _ _ _ (alloc_at _ _) hg,tm_get _ _ _ _ _ _ _ (alloc_at _ _) hg⟩
 ·show _≤(w'.heap.push _).size
  simp
 ·show (w'.heap.push _)[k]? = _
  rw [Array.getElem?_push,if_neg (by omega)]
theorem part_all (f:Nat) (t id ver:Int) (b o n cap:Nat) (s:Str) (hs:s.length≤64) (W:World) (hl:Laid Tryz.prog W.heap fun _=>False) (hb:b<W.heap.size) (hc:W.cell? ⟨b,o+f,none⟩=some (.string ⟨s.toArray⟩)) (hf:f<n) (ht:1≤t∧t≤5) :
 Calls Tryz.prog 105 #[.agg #[.int .i64 f,.int .i64 t],.agg #[.int .i64 id,.int .i64 ver,.slice (some ⟨b,o,none⟩) n cap]] W fun e w'=>∃ t:Str,t.length≤64∧e = .returned (.string ⟨t.toArray⟩)∧RowKit.Below W.heap.size W w':=by
 have c0:∀ g,(g=180∨g=181∨g=182∨g=184∨g=185)→∀ w',PS W f t b o n cap (o+f) ⟨s.toArray⟩ w'→Calls Tryz.prog g #[.string ⟨s.toArray⟩] w' fun e w2=>∃ u:Str,u.length≤64∧e = .returned (.string ⟨u.toArray⟩)∧PS W f t b o n cap (o+f) ⟨s.toArray⟩ w2:=fun g hg w' h=>by
  refine (str_calls (tm_len g hg s hs) w' (laid_below hl h.2.2.2.2.1)).mono ?_
  rintro e w2 ⟨u,hu,rfl,hB⟩
  exact ⟨u,hu,rfl,h.below hB⟩
 rcases (show t=1∨t=2∨t=3∨t=4∨t=5 by omega) with rfl | rfl | rfl | rfl | rfl
 ·exact part_law_1 f 1 id ver b o n cap _ W hb hc hf (c0 _ (by simp)) (tm_law W f 1 b o n cap _ _ 0 _ rfl)
 ·exact part_law_2 f 2 id ver b o n cap _ W hb hc hf (c0 _ (by simp)) (tm_law W f 2 b o n cap _ _ 1 _ rfl)
 ·exact part_law_3 f 3 id ver b o n cap _ W hb hc hf (c0 _ (by simp)) (tm_law W f 3 b o n cap _ _ 2 _ rfl)
 ·exact part_law_4 f 4 id ver b o n cap _ W hb hc hf (c0 _ (by simp)) (tm_law W f 4 b o n cap _ _ 3 _ rfl)
 ·exact part_law_5 f 5 id ver b o n cap _ W hb hc hf (c0 _ (by simp)) (tm_law W f 5 b o n cap _ _ 4 _ rfl)
theorem strs_slice {M:Mi} {im:Bool} {l:List Str} {v:Value} (h:Rd M im (strs l) v) (hS:∀ b,M.S b→b<M.h.size):∃ a cap,v = .slice a l.length cap∧∀ j,j<l.length→∃ b o,a=some ⟨b,o,none⟩∧b<M.h.size∧cellAt M.h b (o+j)=some (.string ⟨(l.getD j []).toArray⟩):=by
 simp only [strs,Rd] at h
 obtain ⟨a,cap,rfl,hn,hel⟩:=h
 refine ⟨a,cap,rfl,fun j hj=>?_⟩
 obtain ⟨b,o,ha,hb,vs,hl,hc,hr⟩:=hel j hj
 refine ⟨b,o,ha,hS b hb,?_⟩
 match vs,hl,hr with
 | [x],_,hr =>
   simp only [RdL,Rd] at hr
   have:=hc 0 (by simp)
   rw [Nat.add_zero,Nat.mul_one] at this
   rw [this,hr.2.1];rfl
theorem odl_cons {M:Mi} {d:D} {l:List D} {vs:List Value} {F:List Nat} (h:OdL M (d :: l) vs F):∃ v vs' F1 F2,vs=v :: vs'∧F=F1 ++ F2∧Od M d v F1∧OdL M l vs' F2:=by
 match vs,h with
 | v :: vs',h =>
   simp only [OdL] at h
   obtain ⟨_,F1,F2,h1,h2,h3⟩:=h
   exact ⟨v,vs',F1,F2,rfl,h1,h2,h3⟩
 | [],h=>simp [OdL] at h
theorem odl_nil {M:Mi} {vs:List Value} {F:List Nat} (h:OdL M [] vs F):vs = []∧F = []:=by
 match vs,h with
 | [],h=>simpa [OdL] using h
 | _ :: _,h=>simp [OdL] at h
theorem cp_val {M:Mi} {a b:Int} {v:Value} {F:List Nat} (h:Od M (.agg [i64 a,i64 b]) v F):v = .agg #[.int .i64 a,.int .i64 b]∧F = []:=by
 simp only [Od] at h
 obtain ⟨⟨cs⟩,rfl,h⟩:=h
 obtain ⟨v1,l1,F1,F2,e1,rfl,o1,h⟩:=odl_cons h
 obtain ⟨v2,l2,F3,F4,e2,rfl,o2,h⟩:=odl_cons h
 obtain ⟨e3,rfl⟩:=odl_nil h
 simp only [i64,Od,Rd] at o1 o2
 obtain ⟨rfl,rfl⟩:=o1
 obtain ⟨rfl,rfl⟩:=o2
 subst e3 e2
 simp only at e1
 subst e1
 exact ⟨rfl,rfl⟩
theorem rc_val {M:Mi} {r:Rc} {v:Value} {F:List Nat} (h:Od M r.d v F):∃ x,v = .agg #[.int .i64 r.id,.int .i64 r.ver,x]∧Rd M true (strs r.v) x∧F = []:=by
 simp only [Rc.d,Rc.l,Od] at h
 obtain ⟨⟨cs⟩,rfl,h⟩:=h
 obtain ⟨v1,l1,F1,F2,e1,rfl,o1,h⟩:=odl_cons h
 obtain ⟨v2,l2,F3,F4,e2,rfl,o2,h⟩:=odl_cons h
 obtain ⟨v3,l3,F5,F6,e4,rfl,o3,h⟩:=odl_cons h
 obtain ⟨e3,rfl⟩:=odl_nil h
 simp only [i64,Od,Rd] at o1 o2
 simp only [strs,Od] at o3
 obtain ⟨rfl,rfl⟩:=o1
 obtain ⟨rfl,rfl⟩:=o2
 obtain ⟨o3,rfl⟩:=o3
 subst e3 e4 e2
 simp only at e1
 subst e1
 exact ⟨v3,rfl,o3,rfl⟩
theorem bpart_ct (c:Cp) (r:Rc) (h0:0≤c.1) (h1:c.1<r.v.length) (ht:1≤c.2∧c.2≤5) (hv:∀ i,i<r.v.length→(r.v.getD i []).length≤64):Ct Tryz.prog 105 [.agg (cpF c),r.d] fun r outs=>∃ t:Str,t.length≤64∧r = .str t∧outs = []:=by
 obtain ⟨c1,c2⟩:=c
 dsimp only at h0 h1 ht
 obtain ⟨f,rfl⟩:=Int.eq_ofNat_of_zero_le h0
 refine ⟨⟨Tryz.f105,Tryz.func105,by decide,by decide⟩,fun w S0 vs F hS0 hod hnd hFS=>?_⟩
 obtain ⟨x,y,rfl⟩:∃ x y,vs = #[x,y]:=by
  match vs,hod with
  | ⟨[x,y]⟩,_=>exact ⟨x,y,rfl⟩
  | ⟨[]⟩,h=>simp [OdT] at h
  | ⟨[_]⟩,h=>simp [OdT] at h
  | ⟨_ :: _ :: _ :: _⟩,h=>simp [OdT] at h
 simp only [OdT] at hod
 obtain ⟨F1,F2,rfl,o1,F3,F4,rfl,o2,rfl⟩:=hod
 obtain ⟨rfl,rfl⟩:=cp_val o1
 obtain ⟨z,rfl,o3,rfl⟩:=rc_val o2
 have hSl:∀ b,(MiS S0 w.heap).S b→b<(MiS S0 w.heap).h.size:=hS0
 obtain ⟨a,cap,rfl,hel⟩:=strs_slice o3 hSl
 obtain ⟨b,o,rfl,hb,hc⟩:=hel f (by omega)
 refine (part_all f c2 r.id r.ver b o r.v.length cap (r.v.getD f []) (hv f (by omega)) w (fun x hx g hg=>⟨(hFS.2 x hx g hg).1,by simp,(hFS.2 x hx g hg).2.2⟩) hb hc (by omega) ht).mono ?_
 rintro e w' ⟨t,ht,rfl,hB⟩
 exact ⟨_,_,[],S0,[],rfl,⟨t,ht,rfl,rfl⟩,⟨hB.os,hB.tape,hB.output,hB.size,fun b hb' _=>hB.block b hb',fun _ h=>h,fun _ h=>.inl h,List.nodup_nil,nofun,nofun⟩,by
  simp only [OdT,ioV,i64,cpF,Rc.d,Rc.l]
  refine ⟨[],[],rfl,?_,?_⟩
  ·simp [Od,Rd]
  ·rfl⟩
end Kx
open Go Sx Go.Proofs
namespace Kx
theorem fit_in {t k:Int} (h:fitB t k=true):1≤t∧t≤5:=by
 simp only [fitB,Bool.or_eq_true,Bool.and_eq_true,decide_eq_true_eq] at h
 omega
theorem cpart_ct {s:Sc} {k:List Cp} (hk:KyOk s k) {r:Rc} (hr:r.ok s) (j:Nat) (hj:j<k.length):Ct Tryz.prog 105 [.agg (cpF (k.getD (j:Int).toNat (0,0))),r.d] fun r outs=>∃ t:Str,t.length≤64∧r = .str t∧outs = []:=by
 have hc:=hk.o.c j hj
 rw [Int.toNat_natCast]
 exact bpart_ct _ r hc.b0 (by rw [hr.n];exact hc.b1) (fit_in hc.ft) fun i hi=>(hr.v i (by rw [←hr.n];exact hi)).le
theorem bhash_ct (q:Int × Int) (s:Sc) (k:List Cp) (hk:KyOk s k) (i:Nat) (hi:i<10) (r:Rc) (hr:r.ok s):Ct Tryz.prog 63 [.agg [u64 q.1,u64 q.2],.agg [cps k],i64 i,r.d] fun o outs=>∃ (h:Int) (ok:Bool),(0≤h∧h≤18446744073709551615)∧o = .tup [u64 h,.bool ok]∧outs = []:=by
 have hn:=hk.o.n;have hp:=hk.p
 refine .some2 (De Tryz.func63 ord63 [] ?_)
 repeat' first|(refine S0 ?_;conv=>whnf)
 refine CodeOK.loopW hΓ hm ord63 [] (by kernel_rfl) (α:=List Str) (fun z=>[(2,i64 i),(4,.loc 0 0),(5,.loc 1 0),(7,.loc 2 0),(8,u64 0),(9,.lit false),(10,.own 3),(14,cps k),(15,i64 k.length),(16,i64 z.length)]) (fun z=>[(0,.var [u64 q.1,u64 q.2]),(1,.var [cps k]),(2,.var r.l),(3,.arr 9 1 z.length fun j=>[.str (z.getD j [])])]) 4 (fun z=>z.length≤k.length∧(∀ t ∈ z,t.length≤64)) (fun z=>k.length - z.length) ?_ ?_
 ·refine Again.by [] ⟨Nat.zero_le _,nofun⟩ ?_
  repeat' first|(refine S0 ?_;conv=>whnf)|(refine Vo ?_)|exact T0|(refine Vm ?_ ?_)
 ·intro z ⟨hz,hl⟩
  dsimp only at hz hl ⊢
  repeat' first|(refine S0 ?_;conv=>whnf)|(refine Vo ?_)|(refine Vb ?_)|exact noSh_bool _|exact noSh_int _ _|(refine W6 ?_)|(refine Met.by (cpart_ct hk hr z.length (by omega)) ?_;rintro q outs ⟨t,ht,rfl,rfl⟩)|(refine Met.by (itoa_ct i (by omega)) ?_;rintro q outs ⟨rfl,rfl⟩)|(refine Met.by (derive_ct q _ (by simp;have:=itS_len i (by omega);omega)) ?_;rintro q outs ⟨rfl,rfl⟩)|(refine Met.by (parts_ct (keyD q _) z (by omega) (fun t h=>by have:=hl t h;omega)) ?_;rintro q outs ⟨rfl,rfl⟩)|(refine Br.d (fun h=>?_) fun h=>?_)|(refine Bm (fun h=>?_) fun h=>?_)|(refine K0 ?_)|(refine K1 ?_)|(refine Met.by (g:=106) (contains_ct _ _ (by first | omega | decide | (simp;done) | (simp;omega))) ?_;rintro q outs ⟨rfl,rfl⟩)|(refine Vm ?_ ?_)
  ·refine Again.by (z ++ [t]) ⟨⟨by simp;omega,fun u hu=>?_⟩,by simp;omega⟩ ?_
   ·rcases List.mem_append.1 hu with h | h
    ·exact hl u h
    ·rw [List.mem_singleton.1 h];exact ht
   repeat' first|(refine S0 ?_;conv=>whnf)|(refine Vo ?_)|exact T0|(exact str_app _ _ rfl)|(simp;done)|(refine Vm ?_ ?_)
  ·refine Lf2.by 0 false ⟨Int.le_refl _,by omega⟩ ?_
   repeat' first|(refine S0 ?_;conv=>whnf)|exact T0|(refine T2 ?_ ?_)
  ·show 5+(itS i).length≤9223372036854775807
   have:=itS_len i (by omega)
   omega
  ·refine Lf2.by (sip (keyD q ([98,108,111,99,107] ++ itS i)) (partsB z)) true (sip_in _ _) ?_
   repeat' first|(refine S0 ?_;conv=>whnf)|exact T0|(refine T2 ?_ ?_)
end Kx
