/-
  Blocks: valid ones pass the check.
  No condition beyond those written in each theorem.
-/
import Derived.Test.YtmomigckcngegaaGreatDoorKC1
set_option linter.unusedSimpArgs false
set_option linter.unusedVariables false
set_option maxRecDepth 4000
open Go Sx Go.Proofs
namespace Kx
abbrev Bk:=Int × List Int
def bkF (b:Bk):List D:=[u64 b.1,ints b.2]
def bks (l:List Bk):D:=.tab 2 l.length fun i=>bkF (l.getD i (0,[]))
def bkk (A:List (List Bk)):D:=.tab 1 A.length fun i=>[bks (A.getD i [])]
def idsN (l:List Bk):Nat→List Int
 | 0=>[]
 | n+1=>idsN l n ++ (l.getD n (0,[])).2
structure BkOk (l:List Bk):Prop where
 n:l.length≤64
 up:∀ i,i+1<l.length→(l.getD i (0,[])).1<(l.getD (i+1) (0,[])).1
 ne:∀ i,i<l.length→(l.getD i (0,[])).2≠[]
 sum:(idsN l l.length).length≤64
 nd:(idsN l l.length).Nodup
 r:∀ i,i<l.length→∀ j,j<(l.getD i (0,[])).2.length→1≤(l.getD i (0,[])).2.getD j 0∧(l.getD i (0,[])).2.getD j 0≤1048576
 asc:∀ i,i<l.length→∀ j,j+1<(l.getD i (0,[])).2.length→(l.getD i (0,[])).2.getD j 0<(l.getD i (0,[])).2.getD (j+1) 0
theorem idsN_mono (l:List Bk):∀ n m,n≤m→∃ t,idsN l m=idsN l n ++ t
 | n,0,h=>by obtain rfl:n=0:=by omega
             exact ⟨[],by simp⟩
 | n,m+1,h=>by
   by_cases e:n=m+1
   ·exact ⟨[],by rw [e];simp⟩
   ·obtain ⟨t,ht⟩:=idsN_mono l n m (by omega)
    exact ⟨t ++ (l.getD m (0,[])).2,by rw [idsN,ht,List.append_assoc]⟩
theorem idsN_le (l:List Bk) (n:Nat) (h:n≤l.length):(idsN l n).length≤(idsN l l.length).length:=by
 obtain ⟨t,ht⟩:=idsN_mono l n l.length h
 rw [ht];simp
def usedL (l:List Int):List (List Int × Int):=l.map fun x=>([x],1)
theorem fnd_used:∀ (l:List Int) (x:Int) (i:Nat),x ∉ l→fnd (usedL l) [x] i=none
 | [],_,_,_=>rfl
 | y :: l,x,i,h=>by
   simp only [List.mem_cons,not_or] at h
   have h1:¬(([y]:List Int) = [x]):=fun e=>h.1 (by simpa using e.symm)
   simp only [usedL,List.map_cons,fnd,h1,decide_false]
   exact fnd_used l x (i+1) h.2
theorem mget_used (l:List Int) (x:Int) (h:x ∉ l):mget (usedL l) [x]=none:=by simp [mget,fnd_used l x 0 h]
theorem mput_used (l:List Int) (x:Int) (h:x ∉ l):mput (usedL l) [x] 1=usedL (l ++ [x]):=by
 have:=fnd_used l x 0 h
 unfold mput
 rw [this]
 simp [usedL]
theorem wf_used (l:List Int):wfM ⟨false,true,usedL l⟩ false true 1:=⟨⟨rfl,rfl⟩,fun x hx=>by
 obtain ⟨y,_,rfl⟩:=List.mem_map.1 hx;rfl⟩
theorem used_new {a I:List Int} (h:(a ++ I).Nodup) {j:Nat} (hj:j<I.length):I.getD j 0 ∉ a ++ I.take j:=fun hm=>by
 rw [List.nodup_append] at h
 obtain ⟨n1,n2,n3⟩:=h
 rw [List.getD_eq_getElem?_getD,List.getElem?_eq_getElem hj] at hm
 simp only [Option.getD_some] at hm
 rcases List.mem_append.1 hm with hm | hm
 ·exact n3 _ hm _ (List.getElem_mem hj) rfl
 ·obtain ⟨q,hq,hqe⟩:=List.getElem_of_mem hm
  rw [List.length_take] at hq
  rw [List.getElem_take] at hqe
  exact (List.pairwise_iff_getElem.1 n2) q j (by omega) hj (by omega) hqe
theorem take_snocI (l:List Int) (n:Nat) (h:n<l.length):l.take (n+1)=l.take n ++ [l.getD n 0]:=by
 rw [List.getD_eq_getElem?_getD,List.getElem?_eq_getElem h,List.take_add_one,List.getElem?_eq_getElem h];rfl
theorem kcheck_ct (l:List Bk) (hB:BkOk l):Ct Tryz.prog 71 [bks l] fun r outs=>r=i64 0∧outs = []:=by
 have hn:=hB.n;have hsum:=hB.sum
 refine .det (De Tryz.func71 ord71 [] ?_)
 repeat' first|(refine S0 ?_;conv=>whnf)
 refine CodeOK.loopW hΓ hm ord71 [] (by kernel_rfl) (α:=Nat) (fun i=>[(0,bks l),(3,i64 (idsN l i).length),(11,bks l),(12,i64 l.length),(13,i64 i)]) (fun i=>[]) 0 (fun i=>i≤l.length) (fun i=>l.length - i) ?_ ?_
 ·refine Again.by 0 (Nat.zero_le _) ?_
  repeat' first|(refine S0 ?_;conv=>whnf)|(refine Vo ?_)|exact T0|(rfl)|(refine Vm ?_ ?_)
 ·intro i hi
  dsimp only at hi ⊢
  have h1:i<l.length→(idsN l i).length+(l.getD ((i:Nat):Int).toNat (0,[])).2.length≤64:=fun hi=>by
   have h2:=idsN_le l (i+1) (by omega)
   rw [idsN,List.length_append] at h2
   rw [Int.toNat_natCast];omega
  repeat' first|(refine S0 ?_;conv=>whnf)|(refine Vo ?_)|exact T0|(refine W6 ?_)|(refine Br.d (fun h=>?_) fun h=>?_)|(refine T2 ?_ ?_)
  ·refine Again.by (i+1) ⟨by omega,by omega⟩ ?_
   repeat' first|(refine S0 ?_;conv=>whnf)|(refine Vo ?_)|exact T0|(rw [idsN,List.length_append,Int.toNat_natCast];omega)|(refine Vm ?_ ?_)
  ·have h64:=idsN_le l i hi
   omega
  ·refine CodeOK.loopW hΓ hm ord71 [] (by kernel_rfl) (α:=Nat) (fun i=>[(0,bks l),(6,.mref 0),(26,bks l),(27,i64 l.length),(28,i64 i)]) (fun i=>[(0,.mp ⟨false,true,usedL (idsN l i)⟩)]) 1 (fun i=>i≤l.length) (fun i=>l.length - i) ?_ ?_
   ·refine Again.by 0 (Nat.zero_le _) ?_
    repeat' first|(refine S0 ?_;conv=>whnf)|(refine Vo ?_)|exact T0|(rfl)|(refine Vm ?_ ?_)
   ·intro i hi
    try dsimp only at hi ⊢
    have hup:1≤i→i<l.length→(l.getD ((i:Int) - 1).toNat (0,[])).1<(l.getD (i:Int).toNat (0,[])).1:=fun h0 h1=>by
     have:=hB.up (i - 1) (by omega)
     rw [show i - 1+1=i by omega] at this
     rw [show ((i:Int) - 1).toNat=i - 1 by omega,Int.toNat_natCast];exact this
    have hne:i<l.length→1≤(l.getD (i:Int).toNat (0,[])).2.length:=fun h1=>by
     rw [Int.toNat_natCast]
     exact List.length_pos_iff.2 (hB.ne i h1)
    repeat' first|(refine S0 ?_;conv=>whnf)|(refine Vo ?_)|exact T0|(refine W6 ?_)|(refine B0 ?_)|(refine Br.d (fun h=>?_) fun h=>?_)|(refine Br.swap ?_)|(refine T2 ?_ ?_)
    all_goals
     have hil:i<l.length:=by omega
     refine CodeOK.loopW hΓ hm ord71 [] (by kernel_rfl) (α:=Nat) (fun j=>[(0,bks l),(6,.mref 0),(8,.loc 1 0),(26,bks l),(27,i64 l.length),(28,i64 i),(53,ints (l.getD i (0,[])).2),(54,i64 (l.getD i (0,[])).2.length),(55,i64 j)]) (fun j=>[(0,.mp ⟨false,true,usedL (idsN l i ++ (l.getD i (0,[])).2.take j)⟩),(1,.var (bkF (l.getD i (0,[]))))]) 2 (fun j=>j≤(l.getD i (0,[])).2.length) (fun j=>(l.getD i (0,[])).2.length - j) ?_ ?_
     ·refine Again.by 0 (Nat.zero_le _) ?_
      rw [Int.toNat_natCast]
      repeat' first|(refine S0 ?_;conv=>whnf)|(refine Vo ?_)|exact T0|(simp;done)|(refine Vm ?_ ?_)
     ·intro j hj
      try dsimp only at hj ⊢
      have hr:=hB.r i hil
      have hasc:=hB.asc i hil
      have hnd:=hB.nd
      have hI64:(l.getD i (0,[])).2.length≤64:=by
       have h2:=idsN_le l (i+1) (by omega)
       rw [idsN,List.length_append] at h2;omega
      have hid:idsN l (i+1)=idsN l i ++ (l.getD i (0,[])).2:=rfl
      have hx:j<(l.getD i (0,[])).2.length→(l.getD i (0,[])).2.getD (j:Int).toNat 0 ∉ idsN l i ++ (l.getD i (0,[])).2.take j:=fun hjl=>by
       obtain ⟨t,ht⟩:=idsN_mono l (i+1) l.length (by omega)
       rw [ht,idsN,List.nodup_append] at hnd
       rw [Int.toNat_natCast]
       exact used_new hnd.1 hjl
      have hr' : j<(l.getD i (0,[])).2.length→1≤(l.getD i (0,[])).2.getD (j:Int).toNat 0∧(l.getD i (0,[])).2.getD (j:Int).toNat 0≤1048576:=fun h=>by rw [Int.toNat_natCast];exact hr j h
      have hasc' : 1≤j→j<(l.getD i (0,[])).2.length→(l.getD i (0,[])).2.getD ((j:Int) - 1).toNat 0<(l.getD i (0,[])).2.getD (j:Int).toNat 0:=fun h0 h=>by
       have:=hasc (j - 1) (by omega)
       rw [show j - 1+1=j by omega] at this
       rw [Int.toNat_natCast,show ((j:Int) - 1).toNat=j - 1 by omega];exact this
      have hmg:j<(l.getD i (0,[])).2.length→(mget (usedL (idsN l i ++ (l.getD i (0,[])).2.take j)) [(l.getD i (0,[])).2.getD (j:Int).toNat 0]).getD 0=0:=fun h=>by rw [mget_used _ _ (hx h)];rfl
      have hstep:j<(l.getD i (0,[])).2.length→mput (usedL (idsN l i ++ (l.getD i (0,[])).2.take j)) [(l.getD i (0,[])).2.getD (j:Int).toNat 0] (b2i true)=usedL (idsN l i ++ (l.getD i (0,[])).2.take (j+1)):=fun h=>by
       have e1:b2i true=1:=rfl
       rw [e1,mput_used _ _ (hx h),List.append_assoc]
       rw [Int.toNat_natCast,take_snocI _ _ h]
      repeat' first|(refine S0 ?_;conv=>whnf)|(refine Vo ?_)|(refine W6 ?_)|(refine B0 ?_)|(exact wf_used _)|(refine Br.dF ?_ ?_;(rw [hmg (by omega)];decide))|(refine Br.d (fun h=>?_) fun h=>?_)|(refine Br.swap ?_)|(refine Vm ?_ ?_)
      ·refine Again.by (j+1) ⟨by omega,by omega⟩ ?_
       repeat' first|(refine S0 ?_;conv=>whnf)|(refine Vo ?_)|exact T0|(exact congrArg (MpL.mk false true) (hstep (by omega)))|(refine Vm ?_ ?_)
      ·refine Again.by (j+1) ⟨by omega,by omega⟩ ?_
       repeat' first|(refine S0 ?_;conv=>whnf)|(refine Vo ?_)|exact T0|(exact congrArg (MpL.mk false true) (hstep (by omega)))|(refine Vm ?_ ?_)
      ·have hjl:j=(l.getD i (0,[])).2.length:=by omega
       refine Again.by (i+1) ⟨by omega,by omega⟩ ?_
       repeat' first|(refine S0 ?_;conv=>whnf)|(refine Vo ?_)|exact T0|(rw [hjl,List.take_length,hid])
end Kx
open Go Sx Go.Proofs
namespace Kx
abbrev MpT:=List (List Int × Int)
def upA (i:Nat) (s t:Int) (m:MpT):MpT:=mput m [s,t] (bitI .or .i64 ((mget m [s,t]).getD 0) (IntKind.i64.wrap (1*2 ^ min i IntKind.i64.bits)))
def agT (i:Nat) (s:Int) (ts:List Int) (m:MpT):MpT:=ts.foldl (fun m t=>upA i s t m) m
def agS (i:Nat) (ss ts:List Int) (m:MpT):MpT:=ss.foldl (fun m s=>agT i s ts m) m
def agX (i:Nat) (x y:Bk) (m:MpT):MpT:=if x.1=y.1 then agS i x.2 y.2 m else m
def agY (i:Nat) (x:Bk) (ys:List Bk) (m:MpT):MpT:=ys.foldl (fun m y=>agX i x y m) m
def agB (i:Nat) (xs ys:List Bk) (m:MpT):MpT:=xs.foldl (fun m x=>agY i x ys m) m
def agN (A B:List (List Bk)):Nat→MpT
 | 0=>[]
 | n+1=>agB n (A.getD n []) (B.getD n []) (agN A B n)
def W2 (m:MpT):Prop:=∀ x ∈ m,x.1.length=2
theorem mput_mem {m:MpT} {r:List Int} {v:Int} {x:List Int × Int} (h:x ∈ mput m r v):x ∈ m∨x=(r,v):=by
 unfold mput at h
 split at h
 ·rcases List.mem_append.1 h with h | h
  ·exact .inl h
  ·exact .inr (by simpa using h)
 ·rename_i p _
  obtain ⟨j,hj⟩:=List.mem_iff_getElem?.1 h
  rw [List.getElem?_modify] at hj
  cases h2:m[j]? with
  | none=>rw [h2] at hj;simp at hj
  | some o =>
    rw [h2] at hj
    by_cases e:p.1=j
    ·simp [e] at hj;exact .inr hj.symm
    ·simp [e] at hj;exact .inl (hj ▸ List.mem_of_getElem? h2)
theorem W2.up {m:MpT} (h:W2 m) (i:Nat) (s t:Int):W2 (upA i s t m):=fun x hx=>by
 rcases mput_mem hx with hx | rfl
 ·exact h x hx
 ·rfl
theorem W2.look {m:MpT} (h:W2 m) (s t:Int) (v:Int):W2 (mput m [s,t] v):=fun x hx=>by
 rcases mput_mem hx with hx | rfl
 ·exact h x hx
 ·rfl
theorem upA_eq (i:Nat) (s t:Int) (m:MpT):mput m [s,t] (bitI .or .i64 ((mget (mput m [s,t] ((mget m [s,t]).getD 0)) [s,t]).getD 0) (IntKind.i64.wrap (1*2 ^ min i IntKind.i64.bits)))=upA i s t m:=by
 rw [mget_mput];rfl
theorem W2.T (i:Nat) (s:Int):∀ (ts:List Int) {m:MpT},W2 m→W2 (agT i s ts m)
 | [],_,h=>h
 | t :: ts,_,h=>W2.T i s ts (h.up i s t)
theorem W2.S (i:Nat) (ts:List Int):∀ (ss:List Int) {m:MpT},W2 m→W2 (agS i ss ts m)
 | [],_,h=>h
 | s :: ss,_,h=>W2.S i ts ss (W2.T i s ts h)
theorem W2.X (i:Nat) (x y:Bk) {m:MpT} (h:W2 m):W2 (agX i x y m):=by
 unfold agX;split
 ·exact W2.S i _ _ h
 ·exact h
theorem W2.Y (i:Nat) (x:Bk):∀ (ys:List Bk) {m:MpT},W2 m→W2 (agY i x ys m)
 | [],_,h=>h
 | y :: ys,_,h=>W2.Y i x ys (W2.X i x y h)
theorem W2.B (i:Nat) (ys:List Bk):∀ (xs:List Bk) {m:MpT},W2 m→W2 (agB i xs ys m)
 | [],_,h=>h
 | x :: xs,_,h=>W2.B i ys xs (W2.Y i x ys h)
theorem W2.N (A B:List (List Bk)):∀ n,W2 (agN A B n)
 | 0=>nofun
 | n+1=>W2.B n _ _ (W2.N A B n)
def ordAg:Ords:=[(18,.ph [0,1,2,3,5,6] (.alt 4 (.ph [7] (.st 8 (.ph [9] (.st 10 (.fin))))) 8 (.ph [9] (.st 4 (.ph [7] (.st 10 (.fin)))))))]
theorem agreements_ct (A B:List (List Bk)) (hAB:A.length=B.length) (hA:A.length≤8) (hbA:∀ i,i<A.length→(A.getD i []).length≤64) (hbB:∀ i,i<B.length→(B.getD i []).length≤64) (hlA:∀ i k,((A.getD i []).getD k (0,[])).2.length≤64) (hlB:∀ i k,((B.getD i []).getD k (0,[])).2.length≤64):Ct Tryz.prog 37 [bkk A,bkk B] fun r outs=>r = .mapb ⟨true,false,agN A B A.length⟩∧outs = []:=by
 refine .det (De Tryz.func37 ordAg [] ?_)
 repeat' first|(refine S0 ?_;conv=>whnf)
 refine CodeOK.loopW hΓ hm ordAg [] (by kernel_rfl) (α:=Nat) (fun i=>[(1,bkk B),(5,.mref 0),(17,bkk A),(18,i64 A.length),(19,i64 i)]) (fun i=>[(0,.mp ⟨true,false,agN A B i⟩)]) 1 (fun i=>i≤A.length) (fun i=>A.length - i) ?_ ?_
 ·refine Again.by 0 (Nat.zero_le _) ?_
  repeat' first|(refine S0 ?_;conv=>whnf)|(refine Vo ?_)|exact T0|(rfl)|(refine Vm ?_ ?_)
 ·intro i hi
  try dsimp only at hi ⊢
  repeat' first|(refine S0 ?_;conv=>whnf)|(refine Vo ?_)|exact T0|(refine Br.d (fun h=>?_) fun h=>?_)|(refine T2 ?_ ?_)
  ·have hiA:i<A.length:=by omega
   have hb1:=hbA i hiA
   have hb2:=hbB i (by omega)
   refine CodeOK.loopW hΓ hm ordAg [] (by kernel_rfl) (α:=Nat × MpT) (fun z=>[(1,bkk B),(5,.mref 0),(6,i64 i),(17,bkk A),(18,i64 A.length),(19,i64 i),(24,bks (A.getD i [])),(25,i64 (A.getD i []).length),(26,i64 z.1)]) (fun z=>[(0,.mp ⟨true,false,z.2⟩)]) 1 (fun z=>z.1≤(A.getD i []).length∧W2 z.2∧agB i ((A.getD i []).drop z.1) (B.getD i []) z.2=agN A B (i+1)) (fun z=>(A.getD i []).length - z.1) ?_ ?_
   ·refine Again.by (0,agN A B i) ⟨Nat.zero_le _,W2.N A B i,rfl⟩ ?_
    repeat' first|(refine S0 ?_;conv=>whnf)|(refine Vo ?_)|exact T0|(rfl)|(exact ⟨rfl,fun _ _=>rfl⟩)|(refine Vm ?_ ?_)
   ·intro ⟨k,m1⟩ ⟨hk,hw1,he1⟩
    dsimp only at hk hw1 he1 ⊢
    repeat' first|(refine S0 ?_;conv=>whnf)|(refine Vo ?_)|(refine W6 ?_)|(refine Br.d (fun h=>?_) fun h=>?_)
    ·have hkX:k<(A.getD i []).length:=by omega
     rw [drop_step _ (0,[]) k hkX] at he1
     refine CodeOK.loopW hΓ hm ordAg [] (by kernel_rfl) (α:=Nat × MpT) (fun z=>[(1,bkk B),(5,.mref 0),(6,i64 i),(9,.loc 1 0),(17,bkk A),(18,i64 A.length),(19,i64 i),(24,bks (A.getD i [])),(25,i64 (A.getD i []).length),(26,i64 k),(33,bks (B.getD i [])),(34,i64 (B.getD i []).length),(35,i64 z.1)]) (fun z=>[(0,.mp ⟨true,false,z.2⟩),(1,.var (bkF ((A.getD i []).getD k (0,[]))))]) 2 (fun z=>z.1≤(B.getD i []).length∧W2 z.2∧agY i ((A.getD i []).getD k (0,[])) ((B.getD i []).drop z.1) z.2=agY i ((A.getD i []).getD k (0,[])) (B.getD i []) m1) (fun z=>(B.getD i []).length - z.1) ?_ ?_
     ·refine Again.by (0,m1) ⟨Nat.zero_le _,hw1,rfl⟩ ?_
      repeat' first|(refine S0 ?_;conv=>whnf)|(refine Vo ?_)|exact T0|(rfl)|(exact ⟨rfl,fun _ _=>rfl⟩)|(refine Vm ?_ ?_)
     ·intro ⟨j,m2⟩ ⟨hj,hw2,he2⟩
      dsimp only at hj hw2 he2 ⊢
      have hlp:=hlA i k
      have hlq:=hlB i j
      repeat' first|(refine S0 ?_;conv=>whnf)|(refine Vo ?_)|(refine W6 ?_)|(refine Br.d (fun h=>?_) fun h=>?_)|(refine Br.bnot ?_)
      ·have hjY:j<(B.getD i []).length:=by omega
       rw [drop_step _ (0,[]) j hjY] at he2
       refine CodeOK.loopW hΓ hm ordAg [] (by kernel_rfl) (α:=Nat × MpT) (fun z=>[(1,bkk B),(5,.mref 0),(6,i64 i),(9,.loc 1 0),(11,.loc 2 0),(17,bkk A),(18,i64 A.length),(19,i64 i),(24,bks (A.getD i [])),(25,i64 (A.getD i []).length),(26,i64 k),(33,bks (B.getD i [])),(34,i64 (B.getD i []).length),(35,i64 j),(45,ints ((A.getD i []).getD k (0,[])).2),(46,i64 ((A.getD i []).getD k (0,[])).2.length),(47,i64 z.1)]) (fun z=>[(0,.mp ⟨true,false,z.2⟩),(1,.var (bkF ((A.getD i []).getD k (0,[])))),(2,.var (bkF ((B.getD i []).getD j (0,[]))))]) 3 (fun z=>z.1≤((A.getD i []).getD k (0,[])).2.length∧W2 z.2∧agS i (((A.getD i []).getD k (0,[])).2.drop z.1) ((B.getD i []).getD j (0,[])).2 z.2=agS i ((A.getD i []).getD k (0,[])).2 ((B.getD i []).getD j (0,[])).2 m2) (fun z=>((A.getD i []).getD k (0,[])).2.length - z.1) ?_ ?_
       ·refine Again.by (0,m2) ⟨Nat.zero_le _,hw2,rfl⟩ ?_
        repeat' first|(refine S0 ?_;conv=>whnf)|(refine Vo ?_)|exact T0|(rfl)|(exact ⟨rfl,fun _ _=>rfl⟩)|(refine Vm ?_ ?_)
       ·intro ⟨p,m3⟩ ⟨hp,hw3,he3⟩
        dsimp only at hp hw3 he3 ⊢
        repeat' first|(refine S0 ?_;conv=>whnf)|(refine Vo ?_)|(refine W6 ?_)|(refine Br.d (fun h=>?_) fun h=>?_)
        ·have hpX:p<((A.getD i []).getD k (0,[])).2.length:=by omega
         rw [drop_step _ 0 p hpX] at he3
         refine CodeOK.loopW hΓ hm ordAg [] (by kernel_rfl) (α:=Nat × MpT) (fun z=>[(1,bkk B),(5,.mref 0),(6,i64 i),(9,.loc 1 0),(11,.loc 2 0),(13,i64 (((A.getD i []).getD k (0,[])).2.getD p 0)),(17,bkk A),(18,i64 A.length),(19,i64 i),(24,bks (A.getD i [])),(25,i64 (A.getD i []).length),(26,i64 k),(33,bks (B.getD i [])),(34,i64 (B.getD i []).length),(35,i64 j),(45,ints ((A.getD i []).getD k (0,[])).2),(46,i64 ((A.getD i []).getD k (0,[])).2.length),(47,i64 p),(52,ints ((B.getD i []).getD j (0,[])).2),(53,i64 ((B.getD i []).getD j (0,[])).2.length),(54,i64 z.1)]) (fun z=>[(0,.mp ⟨true,false,z.2⟩),(1,.var (bkF ((A.getD i []).getD k (0,[])))),(2,.var (bkF ((B.getD i []).getD j (0,[]))))]) 3 (fun z=>z.1≤((B.getD i []).getD j (0,[])).2.length∧W2 z.2∧agT i (((A.getD i []).getD k (0,[])).2.getD p 0) (((B.getD i []).getD j (0,[])).2.drop z.1) z.2=agT i (((A.getD i []).getD k (0,[])).2.getD p 0) ((B.getD i []).getD j (0,[])).2 m3) (fun z=>((B.getD i []).getD j (0,[])).2.length - z.1) ?_ ?_
         ·refine Again.by (0,m3) ⟨Nat.zero_le _,hw3,rfl⟩ ?_
          repeat' first|(refine S0 ?_;conv=>whnf)|(refine Vo ?_)|exact T0|(rfl)|(refine Vm ?_ ?_)
         ·intro ⟨q,m⟩ ⟨hq,hw,he⟩
          dsimp only at hq hw he ⊢
          repeat' first|(refine S0 ?_;conv=>whnf)|(refine Vo ?_)|(refine W6 ?_)|(refine Wr.raw ?_)|(exact ⟨⟨rfl,rfl⟩,hw⟩)|(exact ⟨⟨rfl,rfl⟩,hw.look _ _ _⟩)|(refine Fa.by fun s=>?_)|(refine Br.d (fun h=>?_) fun h=>?_)|(refine T2 ?_ ?_)|(refine Vm ?_ ?_)
          ·have hqY:q<((B.getD i []).getD j (0,[])).2.length:=by omega
           rw [drop_step _ 0 q hqY] at he
           refine Again.by (q+1,upA i (((A.getD i []).getD k (0,[])).2.getD p 0) (((B.getD i []).getD j (0,[])).2.getD q 0) m) ⟨⟨by dsimp only;omega,hw.up _ _ _,he⟩,by dsimp only;omega⟩ ?_
           repeat' first|(refine S0 ?_;conv=>whnf)|(refine Vo ?_)|exact T0|(rfl)|(refine Vm ?_ ?_)
          ·have hqY:q<((B.getD i []).getD j (0,[])).2.length:=by omega
           rw [drop_step _ 0 q hqY] at he
           refine Again.by (q+1,upA i (((A.getD i []).getD k (0,[])).2.getD p 0) (((B.getD i []).getD j (0,[])).2.getD q 0) m) ⟨⟨by dsimp only;omega,hw.up _ _ _,he⟩,by dsimp only;omega⟩ ?_
           repeat' first|(refine S0 ?_;conv=>whnf)|(refine Vo ?_)|exact T0|(exact congrArg (MpL.mk true false) (upA_eq _ _ _ _))|(refine Vm ?_ ?_)
          ·rw [List.drop_of_length_le (by omega)] at he
           refine Again.by (p+1,m) ⟨⟨by dsimp only;omega,hw,?_⟩,by dsimp only;omega⟩ ?_
           ·rw [←he3]
            show agS _ _ _ m=agS _ _ _ (agT _ _ _ m3)
            rw [←he];rfl
           repeat' first|(refine S0 ?_;conv=>whnf)|(refine Vo ?_)|exact T0
        ·rw [List.drop_of_length_le (by omega)] at he3
         refine Again.by (j+1,m3) ⟨⟨by dsimp only;omega,hw3,?_⟩,by dsimp only;omega⟩ ?_
         ·rw [←he2]
          show agY _ _ _ m3=agY _ _ _ (agX _ _ _ m2)
          rw [agX,if_pos (by assumption),←he3];rfl
         repeat' first|(refine S0 ?_;conv=>whnf)|(refine Vo ?_)|exact T0
      ·have hjY:j<(B.getD i []).length:=by omega
       rw [drop_step _ (0,[]) j hjY] at he2
       refine Again.by (j+1,m2) ⟨⟨by dsimp only;omega,hw2,?_⟩,by dsimp only;omega⟩ ?_
       ·rw [←he2]
        show agY _ _ _ m2=agY _ _ _ (agX _ _ _ m2)
        rw [agX,if_neg (by assumption)]
       repeat' first|(refine S0 ?_;conv=>whnf)|(refine Vo ?_)|exact T0
      ·rw [List.drop_of_length_le (by omega)] at he2
       refine Again.by (k+1,m2) ⟨⟨by dsimp only;omega,hw2,?_⟩,by dsimp only;omega⟩ ?_
       ·rw [←he1]
        show agB _ _ _ m2=agB _ _ _ (agY _ _ _ m1)
        rw [←he2];rfl
       repeat' first|(refine S0 ?_;conv=>whnf)|(refine Vo ?_)|exact T0
    ·rw [List.drop_of_length_le (by omega)] at he1
     refine Again.by (i+1) ⟨by omega,by omega⟩ ?_
     repeat' first|(refine S0 ?_;conv=>whnf)|(refine Vo ?_)|exact T0|(exact congrArg (MpL.mk true false) he1)|(refine Vm ?_ ?_)
  ·have:i=A.length:=by omega
   rw [this]
end Kx
open Go Sx Go.Proofs
namespace Kx
def shlI (n:Nat):Int:=IntKind.i64.wrap (1*2 ^ min n IntKind.i64.bits)
theorem shl_pow:∀ n,n≤8→shlI n=((2 ^ n:Nat):Int):=by decide +kernel
theorem or00_ct:Ct Tryz.prog 70 [.tab 1 2 fun i=>selC [[i64 0],[i64 0]] i] fun r outs=>r=i64 0∧outs = []:=orE_ct 0 0
theorem pcheck_ct (A B:List (List Bk)) (hAB:A.length=B.length) (hA:A.length≤8) (hbA:∀ i,i<A.length→BkOk (A.getD i [])) (hbB:∀ i,i<B.length→BkOk (B.getD i [])) (mask:Int) (h0:0≤mask) (h1:mask<shlI A.length):Ct Tryz.prog 36 [bkk A,bkk B,i64 mask] fun r outs=>r=i64 0∧outs = []:=by
 refine .det (De Tryz.func36 ord36 [] ?_)
 repeat' first|(refine S0 ?_;conv=>whnf)|(refine B1 ?_)|(refine B0 ?_)|(refine Br.swap ?_)|(refine Br.bnot ?_)
 refine CodeOK.loopW hΓ hm ord36 [] (by kernel_rfl) (α:=Nat) (fun i=>[(0,bkk A),(1,bkk B),(2,i64 mask),(20,i64 A.length),(21,i64 i)]) (fun i=>[]) 0 (fun i=>i≤A.length) (fun i=>A.length - i) ?_ ?_
 ·refine Again.by 0 (Nat.zero_le _) ?_
  repeat' first|(refine S0 ?_;conv=>whnf)|(refine Vo ?_)|exact T0
 ·intro i hi
  try dsimp only at hi ⊢
  repeat' first|(refine S0 ?_;conv=>whnf)|(refine Vo ?_)|exact T0|exact noSh_int _ _|(refine W6 ?_)|(refine B1 ?_)|(refine B0 ?_)|(refine Met.by (kcheck_ct _ (hbA _ (by omega))) ?_;rintro q outs ⟨rfl,rfl⟩)|(refine Met.by (kcheck_ct _ (hbB _ (by omega))) ?_;rintro q outs ⟨rfl,rfl⟩)|(refine Met.by or00_ct ?_;rintro q outs ⟨rfl,rfl⟩)|(refine Wr.raw ?_)|(refine Br.d (fun h=>?_) fun h=>?_)|(refine Br.swap ?_)|(refine Br.bnot ?_)|(refine T2 ?_ ?_)|(refine K1 ?_)|(refine Vm ?_ ?_)
  ·refine Again.by (i+1) ⟨by omega,by omega⟩ ?_
   repeat' first|(refine S0 ?_;conv=>whnf)|(refine Vo ?_)|exact T0
  ·exact absurd h (Int.not_le.2 h1)
def hitB (v m:Int):Bool:=decide (¬bitI .and .i64 v m=0)
def cntL:MpT→Int→Int
 | [],_=>0
 | x :: l,m=>(if hitB x.2 m=true then 1 else 0)+cntL l m
theorem cntL_perm {l l' : MpT} (h:l.Perm l') (m:Int):cntL l m=cntL l' m:=by
 induction h with
 | nil=>rfl
 | cons x _ ih=>simp only [cntL,ih]
 | swap x y l=>simp only [cntL];omega
 | trans _ _ h1 h2=>rw [h1,h2]
theorem cntL_in (l:MpT) (m:Int):0≤cntL l m∧cntL l m≤l.length:=by
 induction l with
 | nil=>simp [cntL]
 | cons x l ih =>
   simp only [cntL,List.length_cons]
   split<;>omega
theorem and0 (v:Int):bitI .and .i64 v 0=0:=by
 have:(BitVec.ofInt IntKind.i64.bits v &&& BitVec.ofInt IntKind.i64.bits 0)=0:=by
  rw [show BitVec.ofInt IntKind.i64.bits 0=0#IntKind.i64.bits from rfl];simp
 unfold bitI
 rw [this];rfl
theorem hitB0 (v:Int):hitB v 0=false:=by simp [hitB,and0]
theorem Wr.eq {k:IntKind} {z n:Int} {K:Int→Prop} (h:k.wrap z=n) (hk:Step (K n)):Wr k z K:=⟨by rw [h];exact hk.out⟩
theorem ints_set (l:List Int) (i:Nat) (v:Int) (hi:i<l.length):∀ j,j<l.length→iteL (j=i) [i64 v] [i64 (l.getD j 0)] = [i64 ((l.set i v).getD j 0)]:=fun j hj=>by
 rw [iteL_same rfl]
 simp only [List.getD_eq_getElem?_getD,List.getElem?_set]
 by_cases e:j=i
 ·subst e;simp [hj]
 ·rw [if_neg e,if_neg (fun h=>e h.symm)]
theorem every_ct (A B:List (List Bk)) (hAB:A.length=B.length) (hA:A.length≤8) (hbA:∀ i,i<A.length→BkOk (A.getD i [])) (hbB:∀ i,i<B.length→BkOk (B.getD i [])) (hlA:∀ i k,((A.getD i []).getD k (0,[])).2.length≤64) (hlB:∀ i k,((B.getD i []).getD k (0,[])).2.length≤64) (hL:(agN A B A.length).length≤4096) :
 Ct Tryz.prog 13 [bkk A,bkk B] fun r outs=>∃ l:List Int,(l.length=2 ^ A.length∧∀ j,j<l.length→l.getD j 0=cntL (agN A B A.length) j)∧r = .tup [ints l,i64 0]∧outs = []:=by
 have hs:=shl_pow A.length hA
 have hp:2 ^ A.length≤256:=Nat.pow_le_pow_right (by omega) hA
 have hp0:0<2 ^ A.length:=Nat.two_pow_pos _
 generalize 2 ^ A.length=N at *
 have hb1:∀ i,i<A.length→(A.getD i []).length≤64:=fun i hi=>(hbA i hi).n
 have hb2:∀ i,i<B.length→(B.getD i []).length≤64:=fun i hi=>(hbB i hi).n
 have hc:=pcheck_ct A B hAB hA hbA hbB 0 (by omega) (by omega)
 have hw:=W2.N A B A.length
 have hg:=agreements_ct A B hAB hA hb1 hb2 hlA hlB
 generalize agN A B A.length=L at *
 have hs2:IntKind.i64.wrap (1*2 ^ min ((A.length:Int)).toNat IntKind.i64.bits)=N:=hs
 refine .some (De Tryz.func13 [] [] ?_)
 repeat' first|(refine S0 ?_;conv=>whnf)|(refine Vo ?_)|(refine Vb ?_)|(refine B1 ?_)|(refine Met.by hc ?_;rintro q outs ⟨rfl,rfl⟩)|(refine Met.by hg ?_;rintro q outs ⟨rfl,rfl⟩)|(refine Wr.eq hs2 ?_)|(exact ⟨⟨rfl,rfl⟩,hw⟩)|(refine Br.bnot ?_)|(refine K0 ?_)|(refine Vm ?_ ?_)
 refine CodeOK.loopW hΓ hm [] [] (by kernel_rfl) (α:=MpT × List Int) (fun z=>[(7,.own 0),(24,.loc 1 0)]) (fun z=>[(0,.arr 3 1 z.2.length fun j=>[i64 (z.2.getD j 0)]),(1,.mit 2 ⟨true,false,z.1⟩ none)]) 2 (fun z=>z.2.length=N∧z.1.length≤L.length∧∀ j:Nat,j<N→z.2.getD j 0+cntL z.1 j=cntL L j) (fun z=>z.1.length) ?_ ?_
 ·have hrep:∀ j,j<N→(List.replicate N (0:Int)).getD j 0=0:=fun j hj=>by rw [List.getD_eq_getElem?_getD,List.getElem?_replicate,if_pos hj];rfl
  refine Again.by (L,List.replicate N 0) ⟨by simp,Nat.le_refl _,fun j hj=>by dsimp only;rw [hrep j hj];omega⟩ ?_
  repeat' first|(refine S0 ?_;conv=>whnf)|exact T0|(rfl)|(refine Vm ?_ ?_)
  refine ⟨by simp,fun j hj=>?_⟩
  simp only [List.length_replicate] at hj
  dsimp only
  rw [hrep j hj];rfl
 ·intro ⟨m,o⟩ ⟨ho,hml,he⟩
  dsimp only at ho hml he ⊢
  repeat' first|(refine S0 ?_;conv=>whnf)|(refine Nxt.two (fun hn=>?_) (fun a b x rest hpm=>?_))
  ·subst hn
   refine Lf.by o ⟨ho,fun j hj=>?_⟩ ?_
   ·have:=he j (by omega);simp only [cntL] at this;omega
   repeat' first|(refine S0 ?_;conv=>whnf)|exact T0|exact T1|(refine T2 ?_ ?_)
  ·have hlen:=hpm.length_eq
   simp only [List.length_cons] at hlen
   have hcp:=fun j:Nat=>cntL_perm hpm (j:Int)
   simp only [cntL] at hcp
   refine CodeOK.loopW hΓ hm [] [] (by kernel_rfl) (α:=Nat × List Int) (fun z=>[(7,.own 0),(9,i64 x),(24,.loc 1 0),(30,i64 N),(31,i64 z.1)]) (fun z=>[(0,.arr 3 1 z.2.length fun j=>[i64 (z.2.getD j 0)]),(1,.mit 2 ⟨true,false,rest⟩ none)]) 2 (fun z=>z.1≤N∧z.2.length=N∧∀ j:Nat,j<N→z.2.getD j 0=o.getD j 0+(if j<z.1∧hitB x j=true then 1 else 0)) (fun z=>N - z.1) ?_ ?_
   ·refine Again.by (0,o) ⟨Nat.zero_le _,ho,fun j _=>by dsimp only;rw [if_neg (by omega)];omega⟩ ?_
    repeat' first|(refine S0 ?_;conv=>whnf)|(refine Vo ?_)|exact T0
   ·intro ⟨i,u⟩ ⟨hi,hu,hv⟩
    dsimp only at hi hu hv ⊢
    have hbd:i<N→-5000≤u.getD (i:Int).toNat 0∧u.getD (i:Int).toNat 0≤5000:=fun h=>by
     have e1:=hv i h
     have e2:=he i h
     have e3:=cntL_in L i
     have e4:=cntL_in m i
     rw [Int.toNat_natCast]
     split at e1<;>omega
    repeat' first|(refine S0 ?_;conv=>whnf)|(refine Vo ?_)|(refine W6 ?_)|(refine Br.d (fun h=>?_) fun h=>?_)|(refine Br.bnot ?_)
    ·have hh:hitB x i=false:=by simp only [hitB,decide_eq_false_iff_not,Decidable.not_not];assumption
     refine Again.by (i+1,u) ⟨⟨by dsimp only;omega,hu,fun j hj=>?_⟩,by dsimp only;omega⟩ ?_
     ·dsimp only
      rw [hv j hj]
      congr 1
      by_cases e:j=i
      ·subst e;rw [hh];simp
      ·have:(j<i∧hitB x j=true) ↔ (j<i+1∧hitB x j=true):=⟨fun ⟨a,b⟩=>⟨by omega,b⟩,fun ⟨a,b⟩=>⟨by omega,b⟩⟩
       simp only [this]
     repeat' first|(refine S0 ?_;conv=>whnf)|(refine Vo ?_)|exact T0
    ·have hh:hitB x i=true:=by simp only [hitB,decide_eq_true_eq];assumption
     have hiN:i<N:=by omega
     refine Again.by (i+1,u.set i (u.getD i 0+1)) ⟨⟨by dsimp only;omega,by dsimp only;rw [List.length_set];exact hu,fun j hj=>?_⟩,by dsimp only;omega⟩ ?_
     ·dsimp only
      have e1:=hv j hj
      by_cases e:j=i
      ·subst e
       rw [List.getD_eq_getElem?_getD,List.getElem?_set_self (by omega),if_pos ⟨by omega,hh⟩]
       rw [if_neg (by omega)] at e1
       simp only [Option.getD_some];omega
      ·rw [List.getD_eq_getElem?_getD,List.getElem?_set_ne (by omega),←List.getD_eq_getElem?_getD,e1]
       congr 1
       have:(j<i∧hitB x j=true) ↔ (j<i+1∧hitB x j=true):=⟨fun ⟨a,b⟩=>⟨by omega,b⟩,fun ⟨a,b⟩=>⟨by omega,b⟩⟩
       simp only [this]
     repeat' first|(refine S0 ?_;conv=>whnf)|(refine Vo ?_)|exact T0|(refine Vm ?_ ?_)
     refine ⟨by dsimp only;rw [List.length_set],fun j hj=>?_⟩
     dsimp only at hj ⊢
     rw [List.length_set] at hj
     exact ints_set u i (u.getD i 0+1) (by omega) j hj
    ·have hiN:i=N:=by omega
     refine Again.by (rest,u) ⟨⟨hu,by dsimp only;omega,fun j hj=>?_⟩,by dsimp only;omega⟩ ?_
     ·have e1:=hv j hj
      have e2:=he j hj
      have e3:=hcp j
      dsimp only
      split at e1
      ·rename_i h9;rw [if_pos h9.2] at e3;omega
      ·rename_i h9
       rw [if_neg (fun hx=>h9 ⟨by omega,hx⟩)] at e3;omega
     repeat' first|(refine S0 ?_;conv=>whnf)|(refine Vo ?_)|exact T0
end Kx
open Go Sx Go.Proofs
namespace Kx
theorem mlist_ct (A B:List (List Bk)) (hAB:A.length=B.length) (hA:A.length≤8) (hbA:∀ i,i<A.length→BkOk (A.getD i [])) (hbB:∀ i,i<B.length→BkOk (B.getD i [])) (hlA:∀ i k,((A.getD i []).getD k (0,[])).2.length≤64) (hlB:∀ i k,((B.getD i []).getD k (0,[])).2.length≤64) (hL:(agN A B A.length).length≤4096) (mask:Int) (h0:0≤mask) (h1:mask<shlI A.length) :
 Ct Tryz.prog 16 [bkk A,bkk B,i64 mask] fun r outs=>∃ o:List Cp,(o.length:Int)=cntL (agN A B A.length) mask∧r = .tup [cps o,i64 0]∧outs = []:=by
 have hb1:∀ i,i<A.length→(A.getD i []).length≤64:=fun i hi=>(hbA i hi).n
 have hb2:∀ i,i<B.length→(B.getD i []).length≤64:=fun i hi=>(hbB i hi).n
 have hc:=pcheck_ct A B hAB hA hbA hbB mask h0 h1
 have hw:=W2.N A B A.length
 have hg:=agreements_ct A B hAB hA hb1 hb2 hlA hlB
 generalize agN A B A.length=L at *
 have hLi:=cntL_in L mask
 refine .some (De Tryz.func16 [] [] ?_)
 repeat' first|(refine S0 ?_;conv=>whnf)|(refine B1 ?_)|(refine Met.by hc ?_;rintro q outs ⟨rfl,rfl⟩)|(refine Met.by hg ?_;rintro q outs ⟨rfl,rfl⟩)|(exact ⟨⟨rfl,rfl⟩,hw⟩)|(refine Br.bnot ?_)|(refine K0 ?_)|(refine Vm ?_ ?_)
 refine CodeOK.loopW hΓ hm [] [] (by kernel_rfl) (α:=MpT × List Cp) (fun z=>[(2,i64 mask),(9,.own 0),(22,.loc 1 0)]) (fun z=>[(0,.arr 102 2 z.2.length fun j=>cpF (z.2.getD j (0,0))),(1,.mit 2 ⟨true,false,z.1⟩ none)]) 2 (fun z=>(z.2.length:Int)+cntL z.1 mask=cntL L mask) (fun z=>z.1.length) ?_ ?_
 ·refine Again.by (L,[]) (by simp) ?_
  repeat' first|(refine S0 ?_;conv=>whnf)|(refine Vo ?_)|exact T0|(rfl)|(refine Vm ?_ ?_)
 ·intro ⟨m,o⟩ he
  dsimp only at he ⊢
  have hm:=cntL_in m mask
  have hs:(srtL o).length≤1000000:=by rw [srtL_len];omega
  repeat' first|(refine CallOK.sortP o (srtL o) ⟨Tryz.f44,Tryz.func44,by decide,by decide⟩ rfl ⟨rfl,fun _ _=>rfl⟩ (srtL_len _) (fun _ p cap w=>sortU_none p cap w) (fun _ blk cap w hH hb=>sortU_law _ (by omega) blk cap w hH hb) ?_)|(refine S0 ?_;conv=>whnf)|(refine Vb ?_)|(refine Nxt.two (fun hn=>?_) (fun a b x rest hpm=>?_))|(refine Br.d (fun h=>?_) fun h=>?_)|(refine Br.bnot ?_)
  ·subst hn
   refine Lf.by (srtL o) ?_ ?_
   ·simp only [cntL] at he;rw [srtL_len];omega
   repeat' first|(refine S0 ?_;conv=>whnf)|exact T0|(exact ⟨rfl,fun _ _=>rfl⟩)|(refine T2 ?_ ?_)
  ·have hh:hitB x mask=false:=by simp only [hitB,decide_eq_false_iff_not,Decidable.not_not];assumption
   have hcp:=cntL_perm hpm mask
   have hlen:=hpm.length_eq
   simp only [List.length_cons] at hlen
   simp only [cntL,hh] at hcp
   refine Again.by (rest,o) ⟨by dsimp only;simp at hcp;omega,by dsimp only;omega⟩ ?_
   repeat' first|(refine S0 ?_;conv=>whnf)|(refine Vo ?_)|exact T0
  ·have hh:hitB x mask=true:=by simp only [hitB,decide_eq_true_eq];assumption
   have hcp:=cntL_perm hpm mask
   have hlen:=hpm.length_eq
   simp only [List.length_cons] at hlen
   simp only [cntL,hh,if_true] at hcp
   refine Again.by (rest,o ++ [(a,b)]) ⟨by dsimp only;rw [List.length_append];simp;omega,by dsimp only;omega⟩ ?_
   repeat' first|(refine S0 ?_;conv=>whnf)|(refine Vo ?_)|exact T0|(exact app_one cpF (0,0) (fun _ _=>rfl) o (a,b) rfl)|(refine Vm ?_ ?_)
theorem union_ct (A B:List (List Bk)) (hAB:A.length=B.length) (hA:A.length≤8) (hbA:∀ i,i<A.length→BkOk (A.getD i [])) (hbB:∀ i,i<B.length→BkOk (B.getD i [])) (hlA:∀ i k,((A.getD i []).getD k (0,[])).2.length≤64) (hlB:∀ i k,((B.getD i []).getD k (0,[])).2.length≤64) (hL:(agN A B A.length).length≤4096) (mask:Int) (h0:0≤mask) (h1:mask<shlI A.length) :
 Ct Tryz.prog 18 [bkk A,bkk B,i64 mask] fun r outs=>r = .tup [i64 (cntL (agN A B A.length) mask),i64 0]∧outs = []:=by
 have hl:=mlist_ct A B hAB hA hbA hbB hlA hlB hL mask h0 h1
 refine .det (De Tryz.func18 [] [] ?_)
 repeat' first|(refine S0 ?_;conv=>whnf)|exact T0|(refine Met.by hl ?_;rintro q outs ⟨o,ho,rfl,rfl⟩)|(refine T2 ?_ ?_)|(refine K0 ?_)
end Kx
open Go Sx Go.Proofs
namespace Kx
theorem chk1_ct (x:Int) (h:0≤x∧x≤64):Ct Tryz.prog 72 [i64 x] fun r outs=>r = .bool false∧outs = []:=by
 refine .det (De Tryz.func72 [] [] ?_)
 repeat' first|(refine S0 ?_;conv=>whnf)|exact T0|(refine B0 ?_)|(refine Br.swap ?_)|(refine T2 ?_ ?_)
 exact decide_eq_false (by omega)
theorem chk2_ct (x:Int) (h:0≤x∧x≤4096):Ct Tryz.prog 40 [i64 x] fun r outs=>r = .bool false∧outs = []:=by
 refine .det (De Tryz.func40 [] [] ?_)
 repeat' first|(refine S0 ?_;conv=>whnf)|exact T0|(refine B0 ?_)|(refine Br.swap ?_)|(refine T2 ?_ ?_)
 exact decide_eq_false (by omega)
theorem any_f:∀ l:List Int,(l.any fun _=>false)=false
 | []=>rfl
 | _ :: l=>by simp [any_f l]
theorem in64_ct (l:List Int) (hl:l.length≤100000) (h:∀ x ∈ l,0≤x∧x≤64):Ct Tryz.prog 39 [ints l,.fn 72 []] fun r outs=>r = .bool false∧outs = [] :=
 (conf_ct l 72 [] (fun _=>false) hl rfl fun x hx=>(chk1_ct x (h x hx)).mono fun _ _ hr=>hr.1).mono fun r outs hr=>by rw [any_f] at hr;exact hr
theorem in4096_ct (l:List Int) (hl:l.length≤100000) (h:∀ x ∈ l,0≤x∧x≤4096):Ct Tryz.prog 39 [ints l,.fn 40 []] fun r outs=>r = .bool false∧outs = [] :=
 (conf_ct l 40 [] (fun _=>false) hl rfl fun x hx=>(chk2_ct x (h x hx)).mono fun _ _ hr=>hr.1).mono fun r outs hr=>by rw [any_f] at hr;exact hr
structure KrOk (K:List (List Cp)) (rates:List Int):Prop where
 n:K.length≤8
 c:∀ i,i<K.length→(K.getD i []).length≤100
 a:(atL K).length≤10
 r:rates.length=(atL K).length
 b:∀ x ∈ rates,0≤x∧x≤64
theorem plcheck_ct (K:List (List Cp)) (rates:List Int) (h:KrOk K rates):Ct Tryz.prog 38 [kys K,ints rates] fun r outs=>r=i64 0∧outs = []:=by
 have h1:=h.n;have h3:=h.a;have h4:=h.r
 have hA:=atoms_ct K (by omega) h.c
 have hi:=in64_ct rates (by omega) h.b
 generalize atL K=A at *
 refine .det (De Tryz.func38 [] [] ?_)
 repeat' first|(refine S0 ?_;conv=>whnf)|exact T0|(with_reducible refine Br.ff ?_)|(refine B1 ?_)|(refine B0 ?_)|(refine Met.by hA ?_;rintro q outs ⟨rfl,rfl⟩)|(refine Met.by hi ?_;rintro q outs ⟨rfl,rfl⟩)|(refine Br.swap ?_)|(refine Br.bnot ?_)|(refine T2 ?_ ?_)|(refine K0 ?_)
end Kx
