/-
  Arrays of bits as hexadecimal digits.
  No condition beyond those written in each theorem.
-/
import Derived.Test.YtmomigckcngegaaGreatDoorKB3
import Derived.Test.YtmomigckcngegaaGreatDoorKB1
import Derived.Laws.Bits64b
import Derived.Test.YtmomigckcngegaaGreatDoorKA2
import Derived.Test.YtmomigckcngegaaGreatDoorFD
import Derived.Test.YtmomigckcngegaaGreatDoorKB2
import Derived.WalkKit
import Derived.Maps.OwnSet
import Derived.Maps.Views
set_option linter.unusedSimpArgs false
set_option linter.unusedVariables false
set_option maxRecDepth 4000
open Go Sx Go.Proofs
namespace Kx
def hiP (x:Int) (j:Nat):Int:=x / 16 ^ (16 - j)
def nibP (x:Int) (j:Nat):Int:=hiP x (j+1) % 16
def hexD:Str:=[48,49,50,51,52,53,54,55,56,57,97,98,99,100,101,102]
def hxc (x:Int) (j:Nat):UInt8:=hexD.getD (nibP x j).toNat 0
structure WOk (w:Int × List Int):Prop where
 L:LenOk w.1
 n:w.2.length=(w.1 / 64).toNat
 u:∀ i,i<w.2.length→U64 (w.2.getD i 0)
theorem WOk.b {w:Int × List Int} (h:WOk w):(Bs.mk w.1 w.2).ok:=⟨h.L,h.n⟩
theorem WOk.le {w:Int × List Int} (h:WOk w):1≤w.2.length∧w.2.length≤3:=by
 have:=len_pos h.L;have:=h.n;omega
end Kx
open Go Sx Go.Proofs
namespace Kx
end Kx
open Go Sx Go.Proofs
namespace Kx
def MOk (w:Int × List Int):Prop:=w=(0,[])∨WOk w
def noneB (w:Int × List Int):Bool:=decide (w.2 = [])
theorem MOk.two {w:Int × List Int} (h:MOk w):(w=(0,[])∧noneB w=true)∨(WOk w∧noneB w=false∧w.2.length≠0∧w.1≠0):=by
 rcases h with rfl | h
 ·exact .inl ⟨rfl,rfl⟩
 ·have:=h.le;have:=len_pos h.L
  have hne:w.2.length≠0:=by omega
  exact .inr ⟨h,decide_eq_false fun e=>hne (by rw [e];rfl),hne,by omega⟩
structure ErOk (id ver:Int) (n:Nat) (W:Nat→Int × List Int):Prop where
 i1:1≤id
 i2:id≤90
 v1:1≤ver
 v2:ver≤90
 n1:1≤n
 n5:n≤5
 w:∀ i,i<n→MOk (W i)
end Kx
open Go Sx Go.Proofs
namespace Kx
end Kx
open Go Sx Go.Proofs
namespace Kx
theorem RuD.check {r:Ru} (h:RuD r):checkE r=0:=by
 obtain ⟨t,n,s⟩:=r
 obtain ⟨h1,h2,h3⟩:=h
 simp only at h1 h2 h3
 rcases h1 with rfl | rfl<;>rcases h2 with rfl | rfl<;>rcases h3 with rfl | rfl<;>decide +kernel
def nmL:List Str:=[[102,97,109,105,108,121],[103,105,118,101,110],[98,105,114,116,104],[115,116,114,101,101,116],[99,111,100,101]]
def FdD (f:List Fd):Prop:=∀ j,j<f.length→(f.getD j ([],0)).1=nmL.getD j []∧1≤(f.getD j ([],0)).2∧(f.getD j ([],0)).2≤4
theorem FdD.snoc {f:List Fd} (h:FdD f) (k:Int) (hk:1≤k∧k≤4):FdD (f ++ [(nmL.getD f.length [],k)]):=fun i hi=>by
 rw [List.length_append,List.length_cons,List.length_nil] at hi
 by_cases e:i<f.length
 ·rw [List.getD_eq_getElem?_getD,List.getElem?_append_left e,←List.getD_eq_getElem?_getD]
  exact h i e
 ·obtain rfl:i=f.length:=by omega
  rw [List.getD_eq_getElem?_getD (l:=f ++ _),List.getElem?_append_right (Nat.le_refl _),Nat.sub_self]
  exact ⟨rfl,hk⟩
structure ScD (s:Sc):Prop where
 n1:1≤s.f.length
 n4:s.f.length≤4
 f:FdD s.f
 r:RuD s.r
theorem ScD.ok {s:Sc} (h:ScD s):s.ok:=by
 have n4:=h.n4
 have hf:=h.f
 have hw:∀ i<4,wordB (nmL.getD i [])=true:=by decide +kernel
 have hd:∀ i<4,∀ j<4,i<j→nmL.getD i []≠nmL.getD j []:=by decide +kernel
 have hm:∀ x ∈ s.f,∃ j,j<s.f.length∧x=s.f.getD j ([],0):=fun x hx=>by
  obtain ⟨j,hj,rfl⟩:=List.getElem_of_mem hx
  exact ⟨j,hj,by rw [List.getD_eq_getElem?_getD,List.getElem?_eq_getElem hj];rfl⟩
 refine ⟨h.n1,by omega,fun x hx=>?_,fun i j hij hj=>?_,fun x hx=>?_,h.r.ok,h.r.check⟩
 ·obtain ⟨j,hj,rfl⟩:=hm x hx
  rw [(hf j hj).1];exact hw j (by omega)
 ·rw [(hf i (by omega)).1,(hf j hj).1];exact hd i (by omega) j (by omega) hij
 ·obtain ⟨j,hj,rfl⟩:=hm x hx
  exact (hf j hj).2
theorem nm_at (i:Nat) (h:i<5):selC [[D.str [102,97,109,105,108,121]],[.str [103,105,118,101,110]],[.str [98,105,114,116,104]],[.str [115,116,114,101,101,116]],[.str [99,111,100,101]]] i = [.str (nmL.getD i [])]:=selC_str nmL i h
theorem fd_app (f:List Fd) (x:Fd) {m:List D} (hm:m=fdF x):f.length+1=(f ++ [x]).length∧∀ i,i<(f ++ [x]).length→iteL (i<f.length) (fdF (f.getD i ([],0))) (selC [m] (i - f.length))=fdF ((f ++ [x]).getD i ([],0)) :=
 app_one fdF ([],0) (fun _ _=>rfl) f x hm
def kA (i:Nat):Int:=if i=0 then 1 else if i - 1=0 then 1 else if i - 1 - 1=0 then 2 else if i - 1 - 1 - 1=0 then 4 else 3
theorem kA_in (i:Nat):1≤kA i∧kA i≤4:=by
 unfold kA
 (repeat' split)<;>omega
theorem schema_ct (d:Dk):Ct Tryz.prog 7 [d.b] fun r outs=>∃ (s:Sc) (d' : Dk),ScD s∧r=s.d∧outs = [Dk.b d']:=by
 refine .some2 (De Tryz.func7 ord7 [] ?_)
 repeat' first|(refine S0 ?_;conv=>whnf)|(refine W6 ?_)|(refine CallOK.io1 (g:=14) (Step.out ?_))|(refine CallOK.io1 (g:=24) (Step.out ?_))|(refine Met.by (g:=14) (next_ct _ _) ?_;rintro q outs ⟨x,d,hx,rfl,rfl⟩)|(refine Met.by (g:=24) (rules_ct _) ?_;rintro q outs ⟨r,d,hr,rfl,rfl⟩)
 have hr2:=hr.two
 have hx4:=hx.2.2 (by decide)
 refine CodeOK.loopW hΓ hm ord7 [] (by kernel_rfl) (α:=List Fd × Dk) (fun z=>[(0,.loc 0 0),(2,.loc 1 0),(3,.loc 2 0),(4,strs nmL),(5,i64 (1+x)),(6,i64 z.1.length)]) (fun z=>[(0,.var z.2.ls),(1,.var [.nil,.nil,.nil,.nil]),(2,.var [.own 3,strs r.t,prs r.n,prs r.s]),(3,.arr 63 2 z.1.length fun i=>fdF (z.1.getD i ([],0)))]) 4 (fun z=>FdD z.1∧z.1.length≤1+x) (fun z=>5 - z.1.length) ?_ ?_
 ·refine Again.by ([],d) ⟨nofun,by simp;omega⟩ ?_
  repeat' first|(refine S0 ?_;conv=>whnf)|(refine Vo ?_)|exact T0|(rfl)|(exact ⟨rfl,nm_at⟩)|(refine Vm ?_ ?_)
 ·intro ⟨f,d⟩ ⟨hf,hi⟩
  dsimp only at hi hf ⊢
  have h5:nmL.length=5:=rfl
  repeat' first|(refine S0 ?_;conv=>whnf)|(refine Vo ?_)|(refine Vb ?_)|(refine W6 ?_)|(refine Br.d (fun h=>?_) fun h=>?_)|(refine Bm (fun h=>?_) fun h=>?_)|(refine CallOK.io1 (g:=14) (Step.out ?_))|(refine CallOK.io1 (g:=25) (Step.out ?_))|(refine Met.by (g:=14) (next_ct _ _) ?_;rintro q outs ⟨x,d,hx,rfl,rfl⟩)|(refine Met.by (g:=25) (one_ct _ _) ?_;rintro q outs ⟨x,d,hx,rfl,rfl⟩)
  ·rename_i x d hx
   have hx4:=hx.2.2 (by decide)
   refine Again.by (f ++ [(nmL.getD f.length [],1+x)],d) ⟨⟨hf.snoc _ (by omega),by simp;omega⟩,by simp;omega⟩ ?_
   repeat' first|(refine S0 ?_;conv=>whnf)|(refine Vo ?_)|exact T0|(simp;done)|(exact fd_app f _ rfl)|(refine Vm ?_ ?_)
  ·refine Again.by (f ++ [(nmL.getD f.length [],kA f.length)],d) ⟨⟨hf.snoc _ (kA_in _),by simp;omega⟩,by simp;omega⟩ ?_
   repeat' first|(refine S0 ?_;conv=>whnf)|(refine Vo ?_)|exact T0|(simp;done)|(exact fd_app f _ rfl)|(refine Vm ?_ ?_)
  ·refine Lf2.by ⟨f,r⟩ d ⟨by dsimp only;omega,by dsimp only;omega,hf,hr⟩ ?_
   repeat' first|(refine S0 ?_;conv=>whnf)|exact T0|exact T1|(refine T2 ?_ ?_)
end Kx
open Go Sx Go.Proofs
namespace Kx
def anS (c:UInt8):Bool:=isAn c || c == 32
def okB (b:Bool) (y:Str):Bool:=(decide (y = []) || b) && (decide (y.length≤64) && y.all anS)
theorem okB_v {s:Sc} {i:Nat} {y:Str} (h:okB (nrmB s.r (s.kind i).toNat y) y=true):VOk s i y:=by
 simp only [okB,Bool.and_eq_true,Bool.or_eq_true,decide_eq_true_eq,List.all_eq_true] at h
 obtain ⟨h1,h2,h3⟩:=h
 refine ⟨?_,h2,fun c hc=>?_⟩
 ·unfold nB
  split
  ·rfl
  ·rename_i hne;exact h1.resolve_left hne
 ·have:=h3 c hc
  simp only [anS,Bool.or_eq_true,beq_iff_eq] at this
  exact this
theorem name_okB {r:Ru} {x:Str} (h:normE r x=0):okB (normB r (normO r x)) (normO r x)=true:=by
 obtain ⟨h1,h2,_,h4⟩:=norm_twice h
 obtain ⟨hr,_,_,_,h5⟩:=norm_ok h
 have h6:(normO r x).all anS=true:=by
  rw [h5,List.all_eq_true]
  intro c hc
  have hg:=keep_good hr (toks (foldO x))
  rcases join_mem hc with e | ⟨y,hy,hcy⟩
  ·subst e;rfl
  ·have:=low_an ((hg y hy).lo c hcy)
   simp [anS,this]
 simp only [okB,normB,h1,h2,h6,decide_true,Bool.and_true,Bool.or_true,decide_eq_true h4]
theorem code_okB:∀ x ∈ codesL,codeE x=0→okB (codeB (codeO x)) (codeO x)=true:=by decide +kernel
theorem addr_okB:∀ t ∈ [[],rT],∀ n ∈ [[],rN],∀ u ∈ [[],rS],∀ x ∈ addrsL,addrE ⟨t,n,u⟩ x=0→okB (addrB ⟨t,n,u⟩ (addrO ⟨t,n,u⟩ x)) (addrO ⟨t,n,u⟩ x)=true:=by decide +kernel
def wrtD (y m d w:Nat):Str:=writtenS y m d w
theorem day_okB:∀ y<2,∀ m<3,∀ d<3,∀ w<3,okB (rdB (dayO (wrtD (1980+y) (1+m) (1+d) w))) (dayO (wrtD (1980+y) (1+m) (1+d) w))=true:=by decide +kernel
theorem raw_ok {s:Sc} (hs:ScD s) (i:Nat) (x:Str) (h:RawP (s.kind i) x) (hk:1≤s.kind i∧s.kind i≤4) (he:nE s i x=0):VOk s i (nO s i x):=by
 by_cases h0:x = []
 ·rw [nO,if_pos h0]
  exact okB_v (by simp [okB])
 rw [nE,if_neg h0] at he
 rw [nO,if_neg h0]
 apply okB_v
 rcases h with rfl | ⟨hk2,y,m,d,w,hy,hm,hd,rfl⟩ | ⟨hk2,hx⟩ | ⟨hk2,hx⟩ | ⟨h2,h3,h4,_⟩
 ·exact absurd rfl h0
 ·rw [hk2]
  have hw:∃ v:Nat,v<3∧writtenS y m d w=writtenS y m d v:=by
   by_cases h1:w=0
   ·exact ⟨0,by omega,by rw [h1];rfl⟩
   ·by_cases h2:w=1
    ·exact ⟨1,by omega,by rw [h2];rfl⟩
    ·exact ⟨2,by omega,by rw [writtenS,writtenS,if_neg h1,if_neg h2,if_neg (by decide),if_neg (by decide)]⟩
  obtain ⟨v,hv,e⟩:=hw
  have:=day_okB (y - 1980).toNat (by omega) (m - 1).toNat (by omega) (d - 1).toNat (by omega) v hv
  unfold wrtD at this
  rw [show ((1980+(y - 1980).toNat:Nat):Int)=y by omega,show ((1+(m - 1).toNat:Nat):Int)=m by omega,show ((1+(d - 1).toNat:Nat):Int)=d by omega,←e] at this
  exact this
 ·rw [hk2] at he ⊢
  exact code_okB x hx he
 ·rw [hk2] at he ⊢
  obtain ⟨ht,hn,hu⟩:=hs.r
  generalize hr:s.r=r at *
  obtain ⟨t,n,u⟩:=r
  exact addr_okB t (by simpa using ht) n (by simpa using hn) u (by simpa using hu) x hx he
 ·have e:s.kind i=1:=by omega
  rw [e] at he ⊢
  exact name_okB he
theorem raw_len {k:Int} {x:Str} (h:RawP k x):x.length≤10000:=by
 have hN:∀ n ∈ namesL,n.length≤1000:=by decide
 have hC:∀ n ∈ codesL,n.length≤1000:=by decide
 have hA:∀ n ∈ addrsL,n.length≤1000:=by decide
 rcases h with rfl | ⟨_,y,m,d,w,_,_,_,rfl⟩ | ⟨_,hx⟩ | ⟨_,hx⟩ | ⟨_,_,_,n,hn,hl,_⟩
 ·exact Nat.zero_le _
 ·unfold writtenS
  split
  ·simp [putS_len]
  ·split<;>simp [putS_len]
 ·have:=hC _ hx;omega
 ·have:=hA _ hx;omega
 ·have:=hN _ hn;omega
def RawsP (s:Sc) (l:List Str):Prop:=∀ i,i<l.length→RawP (s.kind i) (l.getD i [])
theorem RawsP.snoc {s:Sc} {l:List Str} (h:RawsP s l) {x:Str} (hx:RawP (s.kind l.length) x):RawsP s (l ++ [x]):=fun i hi=>by
 rw [List.length_append,List.length_cons,List.length_nil] at hi
 by_cases e:i<l.length
 ·rw [List.getD_eq_getElem?_getD,List.getElem?_append_left e,←List.getD_eq_getElem?_getD]
  exact h i e
 ·obtain rfl:i=l.length:=by omega
  rw [List.getD_eq_getElem?_getD,List.getElem?_append_right (Nat.le_refl _),Nat.sub_self]
  exact hx
theorem RawsP.len {s:Sc} {l:List Str} (h:RawsP s l):∀ x ∈ l,x.length≤10000:=fun x hx=>by
 obtain ⟨i,hi,rfl⟩:=List.getElem_of_mem hx
 have:=raw_len (h i hi)
 rw [List.getD_eq_getElem?_getD,List.getElem?_eq_getElem hi] at this
 exact this
theorem made_ok {s:Sc} (hs:ScD s) {raws:List Str} (hr:RawsP s raws) (hn:raws.length=s.f.length) {a b:Int} (h:1≤a∧a≤90∧1≤b∧b≤90) (he:∀ i,i<s.f.length→nE s i (raws.getD i [])=0):(Rc.mk a b (mkL s raws s.f.length)).ok s :=
 ⟨h.1,h.2.1,h.2.2.1,h.2.2.2,mkL_len _ _ _,fun i hi=>by
  dsimp only
  rw [mkL_at _ _ _ _ hi]
  exact raw_ok hs i _ (hr i (by omega)) (hs.ok.kd hi) (he i hi)⟩
theorem nil_rep (n:Nat):((n:Nat):Int).toNat=(List.replicate n ([]:Str)).length∧∀ i,i<(List.replicate n ([]:Str)).length→[D.str []] = [D.str ((List.replicate n ([]:Str)).getD i [])] :=
 ⟨by rw [List.length_replicate];omega,fun i hi=>by
  rw [List.length_replicate] at hi
  rw [List.getD_eq_getElem?_getD,List.getElem?_replicate,if_pos hi];rfl⟩
theorem none_ok {s:Sc} {a:Int} (h:1≤a∧a≤90):(Rc.mk a 1 (List.replicate s.f.length [])).ok s :=
 ⟨h.1,h.2,by show (1:Int)≤1;omega,by show (1:Int)≤90;omega,List.length_replicate,fun i hi=>by
  dsimp only
  rw [List.getD_eq_getElem?_getD,List.getElem?_replicate,if_pos hi]
  exact okB_v (by simp [okB])⟩
def ordRec:Ords:=[(6,.ph [1,2,5] (.way 0 (.alt 3 (.ph [4] (.alt 6 (.ph [7,8,9] (.st 10 (.st 11 (.ph [12] (.fin))))) 10 (.st 6 (.ph [7,8,9] (.st 11 (.ph [12] (.fin))))))) 10 (.st 3 (.ph [4] (.st 6 (.ph [7,8,9] (.st 11 (.ph [12] (.fin)))))))) (.way 3 (.ph [4,0] (.alt 6 (.ph [7,8,9] (.st 10 (.st 11 (.ph [12] (.fin))))) 10 (.st 6 (.ph [7,8,9] (.st 11 (.ph [12] (.fin))))))) (.way 10 (.alt 0 (.st 3 (.ph [4] (.st 6 (.ph [7,8,9] (.st 11 (.ph [12] (.fin))))))) 3 (.ph [4] (.ph [0] (.st 6 (.ph [7,8,9] (.st 11 (.ph [12] (.fin)))))))) (.non)))))]
theorem record_ct (d:Dk) (s:Sc) (hs:ScD s) (id:Int) (hid:1≤id∧id≤90):Ct Tryz.prog 35 [d.b,s.d,i64 id] fun r outs=>∃ (x:Rc) (d' : Dk),(x.ok s∧x.id=id)∧r=x.d∧outs = [Dk.b d']:=by
 have n1:=hs.n1;have n4:=hs.n4
 refine .some2 (De Tryz.func35 ordRec [] ?_)
 repeat' first|(refine S0 ?_;conv=>whnf)
 refine CodeOK.loopW hΓ hm ordRec [] (by kernel_rfl) (α:=List Str × Dk) (fun z=>[(0,.loc 0 0),(2,i64 id),(4,.loc 1 0),(6,.loc 2 0),(7,.own 3),(8,i64 z.1.length)]) (fun z=>[(0,.var z.2.ls),(1,.var s.l),(2,.var Rc.z.l),(3,.arr 9 1 z.1.length fun i=>[.str (z.1.getD i [])])]) 4 (fun z=>RawsP s z.1∧z.1.length≤s.f.length) (fun z=>s.f.length - z.1.length) ?_ ?_
 ·refine Again.by ([],d) ⟨nofun,by simp⟩ ?_
  repeat' first|(refine S0 ?_;conv=>whnf)|(refine Vo ?_)|exact T0|(rfl)|(refine Vm ?_ ?_)
 ·intro ⟨l,d⟩ ⟨hl,hi⟩
  dsimp only at hi hl ⊢
  by_cases hlt:l.length<s.f.length
  ·repeat' first|(refine S0 ?_;conv=>whnf)|(refine Vo ?_)|(refine Vb ?_)|(refine W6 ?_)|(refine B1 ?_)|(refine CallOK.io1 (g:=68) (Step.out ?_))|(refine Met.by (g:=68) (rawv_ct _ _) ?_;rintro q outs ⟨x,d,hx,rfl,rfl⟩)
   refine Again.by (l ++ [x],d) ⟨⟨hl.snoc ?_,by simp;omega⟩,by simp;omega⟩ ?_
   ·rw [Int.toNat_natCast] at hx;exact hx
   repeat' first|(refine S0 ?_;conv=>whnf)|(refine Vo ?_)|exact T0|(simp;done)|(exact str_app _ _ rfl)|(refine Vm ?_ ?_)
  ·have hn:l.length=s.f.length:=by omega
   have hmk:=fun b hb=>rmake_ct' s hs.ok id b ⟨hid.1,hid.2,hb⟩ l hn hl.len
   repeat' first|(refine CallOK.ctF (g:=69) (Step.out ?_))|(refine S0 ?_;conv=>whnf)|(refine Vb ?_)|exact T0|(refine W6 ?_)|(refine B0 ?_)|(refine Met.by (hmk _ (by omega)) ?_;rintro q outs ⟨m,e,he,rfl,rfl⟩)|(refine Br.d (fun h=>?_) fun h=>?_)|(refine Br.bnot ?_)|(refine T2 ?_ ?_)|(refine CallOK.io1 (g:=14) (Step.out ?_))|(refine Met.by (g:=14) (next_ct _ _) ?_;rintro q outs ⟨x,d,hx,rfl,rfl⟩)
   all_goals first
    | (have h9:=he h;obtain ⟨rfl,hE⟩:=h9;refine Lf2.by ⟨id,1+x,mkL s l s.f.length⟩ d ⟨made_ok hs hl hn ⟨hid.1,hid.2,by omega⟩ hE,rfl⟩ ?_)
    | refine Lf2.by ⟨id,1,List.replicate s.f.length []⟩ d ⟨none_ok hid,rfl⟩ ?_
   all_goals
    repeat' first|(refine S0 ?_;conv=>whnf)|exact T0|exact T1|(exact nil_rep _)|(refine T2 ?_ ?_)
structure RDl (s:Sc) (l:List Rc) (id:Int):Prop where
 ok:∀ r ∈ l,r.ok s
 asc:∀ i,i+1<l.length→(l.getD i Rc.z).id<(l.getD (i+1) Rc.z).id
 last:∀ i,i<l.length→(l.getD i Rc.z).id≤id
 b0:0≤id
 b1:id≤3*l.length
theorem RDl.snoc {s:Sc} {l:List Rc} {id:Int} (h:RDl s l id) (x:Rc) (j:Int) (hx:x.ok s∧x.id=j) (h1:id+1≤j) (h3:j≤id+3):RDl s (l ++ [x]) j:=by
 have hg:∀ i,i<l.length→(l ++ [x]).getD i Rc.z=l.getD i Rc.z:=fun i e=>by
  rw [List.getD_eq_getElem?_getD,List.getElem?_append_left e,←List.getD_eq_getElem?_getD]
 have hl:(l ++ [x]).getD l.length Rc.z=x:=by
  rw [List.getD_eq_getElem?_getD,List.getElem?_append_right (Nat.le_refl _),Nat.sub_self];rfl
 have b0:=h.b0;have b1:=h.b1
 refine ⟨fun r hr=>?_,fun i hi=>?_,fun i hi=>?_,by omega,by simp;omega⟩
 ·rcases List.mem_append.1 hr with hr | hr
  ·exact h.ok r hr
  ·simp at hr;subst hr;exact hx.1
 ·rw [List.length_append,List.length_cons,List.length_nil] at hi
  by_cases e:i+1<l.length
  ·rw [hg i (by omega),hg (i+1) e];exact h.asc i e
  ·have e:i+1=l.length:=by omega
   rw [e,hl,hg i (by omega),hx.2]
   have:=h.last i (by omega)
   omega
 ·rw [List.length_append,List.length_cons,List.length_nil] at hi
  by_cases e:i<l.length
  ·rw [hg i e];have:=h.last i e;omega
  ·obtain rfl:i=l.length:=by omega
   rw [hl,hx.2];omega
theorem rcL_ite (c:Prop) [Decidable c] (a b:Rc):iteL c a.l b.l=(if c then a else b).l:=by
 show [D.int .i64 (if c then a.id else b.id),D.int .i64 (if c then a.ver else b.ver),D.tab 1 (if c then a.v.length else b.v.length) fun i=>[D.str (if c then a.v.getD i [] else b.v.getD i [])]]=_
 split<;>rfl
theorem rc_app (l:List Rc) (x:Rc):l.length+1=(l ++ [x]).length∧∀ i,i<(l ++ [x]).length→iteL (i<l.length) ((l.getD i Rc.z).l) (selC [x.l] (i - l.length))=((l ++ [x]).getD i Rc.z).l :=
 ⟨by simp,fun i hi=>by
  rw [List.length_append,List.length_cons,List.length_nil] at hi
  show iteL (i<l.length) ((l.getD i Rc.z).l) x.l=_
  rw [rcL_ite]
  split
  ·rename_i h;rw [List.getD_eq_getElem?_getD (l:=l ++ _),List.getElem?_append_left h,←List.getD_eq_getElem?_getD]
  ·obtain rfl:i=l.length:=by omega
   rw [List.getD_eq_getElem?_getD (l:=l ++ _),List.getElem?_append_right (Nat.le_refl _),Nat.sub_self];rfl⟩
theorem records_ct (d:Dk) (s:Sc) (hs:ScD s) (most:Int) (hmo:0≤most∧most≤30):Ct Tryz.prog 12 [d.b,s.d,i64 most] fun r outs=>∃ (l:List Rc) (d' : Dk),(RsOk s l∧l.length≤most)∧r=rcs l∧outs = [Dk.b d']:=by
 refine .some2 (De Tryz.func12 [] [] ?_)
 repeat' first|(refine S0 ?_;conv=>whnf)|(refine W6 ?_)|(refine CallOK.io1 (g:=14) (Step.out ?_))|(refine Met.by (g:=14) (next_ct _ _) ?_;rintro q outs ⟨x,d,hx,rfl,rfl⟩)
 have hK:=hx.2.2 (by omega)
 have hK0:=hx.1
 refine CodeOK.loopW hΓ hm [] [] (by kernel_rfl) (α:=List Rc × Int × Dk) (fun z=>[(0,.loc 0 0),(4,.loc 1 0),(7,.own 2),(8,i64 z.2.1),(9,i64 (x - z.1.length))]) (fun z=>[(0,.var z.2.2.ls),(1,.var s.l),(2,.arr 68 3 z.1.length fun i=>(z.1.getD i Rc.z).l)]) 3 (fun z=>RDl s z.1 z.2.1∧(z.1.length:Int)≤x) (fun z=>(x - z.1.length).toNat) ?_ ?_
 ·refine Again.by ([],0,d) ⟨⟨nofun,nofun,nofun,Int.le_refl _,Int.le_refl _⟩,by simp;omega⟩ ?_
  repeat' first|(refine S0 ?_;conv=>whnf)|(refine Vo ?_)|exact T0|(rfl)|(simp;done)|(refine Vm ?_ ?_)
 ·intro ⟨l,id,d⟩ ⟨hl,hi⟩
  dsimp only at hi hl ⊢
  have b0:=hl.b0;have b1:=hl.b1
  repeat' first|(refine S0 ?_;conv=>whnf)|(refine Vb ?_)|(refine W6 ?_)|(refine Br.d (fun h=>?_) fun h=>?_)|(refine CallOK.io1 (g:=14) (Step.out ?_))|(refine CallOK.io1 (g:=35) (Step.out ?_))|(refine Met.by (g:=14) (next_ct _ _) ?_;rintro q outs ⟨x,d,hx,rfl,rfl⟩)|(refine Met.by (g:=35) (record_ct _ _ (by assumption) _ (by omega)) ?_;rintro q outs ⟨x,d,hx,rfl,rfl⟩)
  ·rename_i y _ hy
   have hy3:=hy.2.2 (by decide)
   have hy0:=hy.1
   refine Again.by (l ++ [x],_,d) ⟨⟨hl.snoc x _ hx (by dsimp only;omega) (by dsimp only;omega),by simp;omega⟩,by simp;omega⟩ ?_
   repeat' first|(refine S0 ?_;conv=>whnf)|(refine Vo ?_)|exact T0|(exact rc_app l x)|(simp;omega)|(refine Vm ?_ ?_)
  ·refine Lf2.by l d ⟨⟨by omega,hl.ok,hl.asc⟩,by omega⟩ ?_
   repeat' first|(refine S0 ?_;conv=>whnf)|exact T0|exact T1|(refine T2 ?_ ?_)
end Kx
open Go Sx Go.Proofs
namespace Kx
open Go.RowKit Go.Maps Go.WideMaps
def keysK (g:Nat→ByteArray) (k:Nat):List Lit:=(List.range k).map fun j=>Lit.string (g j).data.toList
def SnU (g:Nat→ByteArray) (k:Nat):DataW Unit:=setOf (.agg []) (keysK g k)
theorem SnU_succ (g:Nat→ByteArray) (k:Nat):SnU g (k+1)=(SnU g k).put (.string (g k).data.toList) (.agg []):=by
 unfold SnU keysK
 rw [List.range_succ,List.map_append,List.map_singleton,setOf_snoc]
theorem SnU_zero (g:Nat→ByteArray):SnU g 0 = .map []:=by simp [SnU,keysK,setOf]
theorem lawK:Keyed Tryz.prog 9:=string_keyed Tryz.underlying9
set_option maxRecDepth 100000 in
theorem of_none (g:Nat→ByteArray) (a:Option Addr) (cap:Nat) (w:World):Calls Tryz.prog 243 #[.slice a 0 cap] w fun e w'=>e = .returned (.map (some w.heap.size))∧w'.ownsMap Tryz.prog 9 unitElem w.heap.size 0 (SnU g 0)∧Below w.heap.size w w':=by
 have hmm:=@run_makeMap Tryz.prog
 go_enter Tryz.func243,Tryz.ntmps243
 go_wp2
 refine wp_loop_rounds 1 ?_
 rw [rounds_succ]
 go_wp2
 go_ret
 exact ⟨rfl,by rw [SnU_zero];exact World.ownsMap_made _ _ _ _,(Below.refl _ _).alloc (Nat.le_refl _) _⟩
set_option maxRecDepth 100000 in
theorem of_some (b off cap n:Nat) (g:Nat→ByteArray) (w:World) (hl:n≤1000) (hb:b<w.heap.size)
 (hc:∀ j,j<n→w.cell? ⟨b,off+j,none⟩=some (.string (g j))) (hsz:∀ j,j<n→(g j).size≤maxLen) :
 Calls Tryz.prog 243 #[.slice (some ⟨b,off,none⟩) n cap] w fun e w'=>e = .returned (.map (some w.heap.size))∧w'.ownsMap Tryz.prog 9 unitElem w.heap.size n (SnU g n)∧Below w.heap.size w w':=by
 have hmm:=@run_makeMap Tryz.prog
 go_enter Tryz.func243,Tryz.ntmps243
 go_wp2
 go_loopw [9] (fun i wr=>∃ k:Nat,k≤n∧i = .int .i64 k∧wr.ownsMap Tryz.prog 9 unitElem w.heap.size k (SnU g k)∧Below w.heap.size w wr)
  (fun i _=>n - (Go.RowKit.intOf i).toNat)
 case atStart=>exact ⟨0,Nat.zero_le _,rfl,by rw [SnU_zero];exact World.ownsMap_made _ _ _ _,(Below.refl _ _).alloc (Nat.le_refl _) _⟩
 case round =>
  obtain ⟨k,hk,rfl,hown,hnx⟩:=hrel
  have hcx:k<n→wr.cell? ⟨b,off+k,none⟩=some (.string (g k)):=fun h=>(hnx.cell (by exact hb)).trans (hc k h)
  have hkey:k<n→keyOf Tryz.prog 9 (.string (g k))=some (.string (g k).data.toList):=fun h=>keyOf_string_mk Tryz.underlying9 (hsz k h)
  go_wp2_with (first
   | (at_mapUpdate;refine wpList_mapUpdate_own _ rfl _ _ _ 281 rfl _ _ lawK Tryz.underlying281 unitElem w.heap.size k _ rfl hown (by unfold maxLen;omega) _ _ _ rfl rfl (hkey (by omega)) _ [] unitElem_mk ?_;intro w1 hown1 hgrow1)
   | go_in)
  ·have hlt:k<n:=by assumption
   go_roundw
   case rel=>exact ⟨k+1,by omega,by go_num,(SnU_succ g k).symm ▸ hown1,hnx.grown hgrow1 hnx.size (fun j hj=>by cases hj;exact Nat.le_refl _)⟩
   case measure=>simp [Go.RowKit.intOf];omega
  ·have:k=n:=by omega
   subst this
   go_ret
   exact ⟨rfl,hown,hnx⟩
theorem sortsK (m:Nat):AnyZ.SortsIn Tryz.prog Kx.sortedA_ren Fence.wide m :=
 ⟨fun blk off cap ss W hH hblk hsz=>callsIn_wide.2 (Kx.slices_Sort_string blk off cap ss W hH hblk hsz),fun p cap W=>callsIn_wide.2 (Kx.slices_Sort_string_none p cap W)⟩
set_option maxHeartbeats 1000000 in
theorem sorted_keys (b nn:Nat) (D0:DataW Unit) (w:World) (hown:w.ownsMap Tryz.prog 9 unitElem b nn D0) (hmax:Maps.size D0≤1000) :
 CallsIn Fence.wide 6 Tryz.prog 242 #[.map (some b)] w (fun e w'=>e = .returned (.func (.func 260) #[] #[.pointer (some ⟨w.heap.size,0,none⟩)])∧w' = w.alloc (.cells #[.map (some b)] 281)) ∧
 CallsIn Fence.wide 6 Tryz.prog 241 #[.func (.func 260) #[] #[.pointer (some ⟨w.heap.size,0,none⟩)]] (w.alloc (.cells #[.map (some b)] 281)) fun e w'=>∃ (v:Value) (ss:List (List UInt8)),e = .returned v∧ss.Perm (strKeys D0) ∧
  w'.ownsRow (w.alloc (.cells #[.map (some b)] 281)).heap.size 9 1 v ss.length ((ss.mergeSort (fun x y=>decide (x≤y))).map encStr)∧Below (w.alloc (.cells #[.map (some b)] 281)).heap.size (w.alloc (.cells #[.map (some b)] 281)) w':=by
 have hbl:=hown.lt
 have hseq:SeqGives Fence.wide 3 Tryz.prog 260 #[.pointer (some ⟨w.heap.size,0,none⟩)] encStr (fun ss=>ss.Perm (strKeys D0)) (Maps.size D0) (w.alloc (.cells #[.map (some b)] 281)) :=
  AnyZ.keys_gives (ρ:=Kx.keysA_ren) { Kx.keysA with } Fence.wide _ trivial rfl (by omega) w.heap.size b nn D0 _ (by simp) (by simp) (by
   obtain ⟨es,clock,hb,Ft,hs,hD⟩:=hown
   exact ⟨es,clock,(Below.heap_alloc _ _ b hbl).trans hb,Ft,hs,hD⟩)
 refine ⟨AnyZ.keys_in Kx.keysA Fence.wide 6 trivial rfl (some b) w,?_⟩
 have cS:=AnyZ.sorted_in Kx.sortedA Fence.wide 6 trivial trivial trivial trivial rfl (by omega) (sortsK _) (enters_of Tryz.func259 (by kernel_rfl) rfl) 260 #[.pointer (some ⟨w.heap.size,0,none⟩)] trivial (enters_of Tryz.func260 (by kernel_rfl) rfl) _ _ (by unfold maxLen;omega) (by omega) _ hseq
 exact cS.mono fun e w' ⟨v,ss,h1,h2,h3,_,h5⟩=>⟨v,ss,h1,h2,h3,h5⟩
set_option maxHeartbeats 1000000 in
theorem set_law (n:Nat) (hn:n≤1000) (g:Nat→ByteArray) (x:Value) (w:World) (hof:Calls Tryz.prog 243 #[x] w fun e w'=>e = .returned (.map (some w.heap.size))∧w'.ownsMap Tryz.prog 9 unitElem w.heap.size n (SnU g n)∧Below w.heap.size w w') :
 Calls Tryz.prog 212 #[x] w fun e w'=>∃ (v:Value) (ss:List (List UInt8)),e = .returned v∧ss.Perm (strKeys (SnU g n)) ∧
  w'.ownsRow w.heap.size 9 1 v ss.length ((ss.mergeSort (fun x y=>decide (x≤y))).map encStr)∧Below w.heap.size w w'∧∃ W b m,World.ownsMap W Tryz.prog 9 unitElem b m (SnU g n):=by
 refine (callsIn_wide (n:=7)).1 ?_
 have cO:=(callsIn_wide (n:=6)).2 hof
 have cK:=fun W (h:World.ownsMap W Tryz.prog 9 unitElem w.heap.size n (SnU g n))=>(sorted_keys _ _ _ W h (by have:=h.size_le;omega)).1
 have cS:=fun W (h:World.ownsMap W Tryz.prog 9 unitElem w.heap.size n (SnU g n))=>(sorted_keys _ _ _ W h (by have:=h.size_le;omega)).2
 have f1:Fence.wide.fn 243:=trivial
 have f2:Fence.wide.fn 242:=trivial
 have f3:Fence.wide.fn 241:=trivial
 refine callsIn_of_wp Tryz.func212 rfl trivial ?_ rfl
 simp only [Tryz.ntmps212,List.size_toArray,List.length_cons,List.length_nil,Nat.reduceAdd,Nat.reduceSub,Array.replicate_succ,Array.replicate_zero,List.push_toArray,List.append_toArray,List.nil_append,List.cons_append]
 gi_wp2_with (first
  | (gi_at_call 243;refine cO.mono ?_;rintro e w1 ⟨rfl,ho,hb1⟩)
  | (gi_at_call 242;refine (cK w1 ho).mono ?_;rintro e w2 ⟨rfl,rfl⟩)
  | (gi_at_call 241;refine (cS w1 ho).mono ?_;rintro e w3 ⟨v,ss,rfl,hS,hrow,hb⟩))
 go_ret
 have hb2:=hb1.trans (((Below.refl w1.heap.size w1).alloc (Nat.le_refl _) (.cells #[.map (some w.heap.size)] 281)).mono hb1.size)
 exact ⟨v,ss,rfl,hS,ownsRow_base_a hrow hb2.size,hb2.trans (hb.mono hb2.size),w1,_,_,ho⟩
theorem insS_iff (t:Str):∀ l:List Str,∀ g,g ∈ insS t l ↔ g=t∨g ∈ l
 | [],g=>by simp [insS]
 | u :: l,g=>by
   have h:=insS_iff t l g
   unfold insS
   split
   ·rename_i e;subst e;simp
   ·split
    ·simp
    ·simp only [List.mem_cons,h]
     constructor<;>(intro h;rcases h with h | h | h<;>simp [h])
theorem lt_iff:∀ a b:Str,ltS a b=true ↔ a<b
 | [],[]=>by simp [ltS]
 | [],_ :: _=>by simp [ltS]
 | _ :: _,[]=>by simp [ltS]
 | x :: a,y :: b=>by
   have h:=lt_iff a b
   rw [List.cons_lt_cons_iff]
   unfold ltS
   by_cases e:x=y
   ·subst e
    rw [if_pos rfl,h]
    constructor
    ·exact fun h=>.inr ⟨rfl,h⟩
    ·rintro (h | h)
     ·exact absurd h (by simp)
     ·exact h.2
   ·rw [if_neg e,decide_eq_true_eq]
    constructor
    ·exact fun h=>.inl (UInt8.lt_iff_toNat_lt.2 h)
    ·rintro (h | h)
     ·exact UInt8.lt_iff_toNat_lt.1 h
     ·exact absurd h.1 e
theorem insS_sort (t:Str):∀ l:List Str,l.Pairwise (fun a b=>a<b)→(insS t l).Pairwise (fun a b=>a<b)
 | [],_=>by simp [insS]
 | u :: l,h=>by
   have h1:=List.pairwise_cons.1 h
   have h2:=insS_sort t l h1.2
   unfold insS
   split
   ·exact h
   ·rename_i hne
    split
    ·rename_i hlt
     rw [lt_iff] at hlt
     refine List.pairwise_cons.2 ⟨fun x hx=>?_,h⟩
     rcases List.mem_cons.1 hx with rfl | hx
     ·exact hlt
     ·exact List.lt_trans hlt (h1.1 x hx)
    ·rename_i hlt
     rw [lt_iff] at hlt
     refine List.pairwise_cons.2 ⟨fun x hx=>?_,h2⟩
     rcases (insS_iff t l x).1 hx with rfl | hx
     ·exact Classical.byContradiction fun h2=>hne (List.le_antisymm (List.not_lt.1 h2) (List.not_lt.1 hlt))
     ·exact h1.1 x hx
theorem setS_iff:∀ l:List Str,∀ g,g ∈ setS l ↔ g ∈ l
 | [],g=>by simp [setS]
 | t :: l,g=>by rw [setS,insS_iff,setS_iff l g,List.mem_cons]
theorem setS_sort:∀ l:List Str,(setS l).Pairwise (fun a b=>a<b)
 | []=>by simp [setS]
 | t :: l=>by rw [setS];exact insS_sort t _ (setS_sort l)
theorem setS_merge (l:List Str) {ss:List (List UInt8)} (h:ss.Perm (setS l)):ss.mergeSort (fun x y=>decide (x≤y))=setS l:=by
 rw [mergeSort_of_perm h]
 refine List.mergeSort_of_pairwise ((setS_sort l).imp fun {a b} hab=>?_)
 exact decide_eq_true (List.le_of_lt hab)
theorem set_perm {n:Nat} {l:List Str} (hn:n=l.length) {w:World} {b m:Nat} (hown:w.ownsMap Tryz.prog 9 unitElem b m (SnU (fun i=>⟨(l.getD i []).toArray⟩) n)):(setS l).Perm (strKeys (SnU (fun i=>⟨(l.getD i []).toArray⟩) n)):=by
 refine Collected.perm (left:=fun _=>false) ⟨(setS_sort l).imp fun {a b} h e=>?_,fun x=>?_⟩ hown lawK Tryz.underlying9 fun _=>rfl
 ·subst e;exact List.lt_irrefl _ h
 ·rw [setS_iff,SnU,has_setOf _ _ _ (fun y hy=>by obtain ⟨j,_,rfl⟩:=List.mem_map.1 hy;trivial)]
  subst hn
  simp only [keysK,List.any_map,List.any_eq_true,List.mem_range,Function.comp,and_true]
  constructor
  ·intro hx
   obtain ⟨i,hi,rfl⟩:=List.getElem_of_mem hx
   exact ⟨i,hi,by simp [Lit.sameKey,List.getD,hi]⟩
  ·rintro ⟨i,hi,e⟩
   simp [Lit.sameKey,List.getD,hi] at e
   rw [←e];exact List.getElem_mem hi
theorem setO_ct (l:List Str) (hl:l.length≤1000) (hg:∀ g ∈ l,g.length≤1000):Ct Tryz.prog 212 [strs l] fun r outs=>r=strsO 9 (setS l)∧outs = []:=by
 refine ⟨⟨Tryz.f212,Tryz.func212,by decide,by decide⟩,fun w S0 vs F hS hod hnd hFS=>?_⟩
 have hll:=hod.length
 obtain ⟨va,hvs⟩:∃ va,vs = #[va]:=by
  match vs,hll with
  | ⟨[a]⟩,_=>exact ⟨a,rfl⟩
 subst hvs
 simp only [OdT,strs,Od] at hod
 obtain ⟨F1,F2,rfl,⟨hv,rfl⟩,rfl⟩:=hod
 simp only [Rd] at hv
 obtain ⟨a,cap,rfl,hn,hel⟩:=hv
 have hof:Calls Tryz.prog 243 #[.slice a l.length cap] w fun e w'=>e = .returned (.map (some w.heap.size))∧w'.ownsMap Tryz.prog 9 unitElem w.heap.size l.length (SnU (fun i=>⟨(l.getD i []).toArray⟩) l.length)∧Below w.heap.size w w':=by
  rcases Nat.eq_zero_or_pos l.length with h0 | h0
  ·rw [h0];exact of_none _ a cap w
  ·obtain ⟨b,off,rfl,hb,_⟩:=hel 0 h0
   refine of_some b off cap l.length _ w hl (hS b hb) (fun j hj=>?_) (fun j hj=>?_)
   ·obtain ⟨b',off',e,_,us,hu,hc,hr⟩:=hel j hj
    cases e
    match us,hr with
    | [u],hr =>
      simp only [RdL,Rd] at hr
      have:=hc 0 (by simp)
      rw [cell?_at]
      simp only [Nat.mul_one,Nat.add_zero,MiS] at this
      rw [this,hr.2.1];rfl
   ·have:=hg _ (getD_in (z:=[]) hj)
    have e:(⟨(l.getD j []).toArray⟩:ByteArray).size=(l.getD j []).length:=by simp [ByteArray.size]
    unfold maxLen
    omega
 refine (set_law l.length hl _ _ w hof).mono ?_
 rintro e w' ⟨v,ss,rfl,hp,hrow,hb,W,b1,m,hown⟩
 have hm:=setS_merge l (hp.trans (set_perm rfl hown).symm)
 have hlen:ss.length=(setS l).length:=by rw [←hm,List.length_mergeSort]
 rw [hm,hlen] at hrow
 have hblk:∀ b,v.ownBlock=some b→w.heap.size≤b:=fun b hb=>by
  rcases hrow.2 with ⟨rfl,_⟩ | ⟨gb,c,cur,rfl,hge,_⟩
  ·simp [Value.ownBlock] at hb
  ·simp only [Value.ownBlock,Option.some.injEq] at hb;omega
 refine ⟨v,_,[],S0,v.ownBlock.toList,rfl,⟨rfl,rfl⟩,⟨hb.os,hb.tape,hb.output,hb.size,fun b h1 _=>hb.block b h1,fun b h=>h,fun b h=>.inl h,by cases v.ownBlock<;>simp,?_,?_⟩,?_⟩
 ·intro b hb1 hb2
  exact absurd (hS b hb2) (Nat.not_lt.2 (hblk b (by simpa using hb1)))
 ·intro b hb1
  exact .inr (hblk b (by simpa using hb1))
 ·simp only [OdT,strsO,Od,ioV]
  refine ⟨v.ownBlock.toList,[],by simp,⟨⟨(setS l).map encStr,OwnsH.of_row hrow,fun i hi=>?_,fun u hu=>?_⟩,rfl⟩,rfl⟩
  ·rw [Nat.mul_one,List.drop_eq_getElem_cons (by simpa using hi)]
   simp only [List.take_succ_cons,List.take_zero,RdL,Rd,and_true]
   simp [encStr,Value.oneCell',List.getD,hi]
  ·obtain ⟨x,_,rfl⟩:=List.mem_map.1 hu
   rfl
theorem set_ok:SetOK:=fun l hl hg=>by
 refine Ct.det ((setO_ct l (by omega) fun g h=>by have:=hg g h;omega).mono ?_)
 rintro r outs ⟨rfl,rfl⟩
 exact ⟨⟨rfl,fun _ _=>rfl⟩,trivial⟩
end Kx
