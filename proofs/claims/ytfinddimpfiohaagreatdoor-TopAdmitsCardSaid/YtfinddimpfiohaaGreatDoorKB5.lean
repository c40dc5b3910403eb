/-
  The deck's events; comparing rows.
  No condition beyond those written in each theorem.
-/
import Derived.Test.YtfinddimpfiohaaGreatDoorKB4
import Derived.Test.YtfinddimpfiohaaGreatDoorKA1
import Derived.Test.YtfinddimpfiohaaGreatDoorFD
import Derived.Test.YtfinddimpfiohaaGreatDoorKB2
import Derived.Test.YtfinddimpfiohaaGreatDoorKA9
set_option linter.unusedSimpArgs false
set_option linter.unusedVariables false
set_option maxRecDepth 4000
open Go Sx Go.Proofs
namespace Kx
theorem one_ct_c (d:Dk) (n:Int):Ct Tryz.prog 8 [d.b,i64 n] fun r outs=>∃ x d',True/\r = .bool x/\outs = [Dk.b d']:=by
 refine .some2 (De Tryz.func8 [] [] ?_)
 repeat' first|refine S0 ?_;conv=>whnf|(refine CallOK.io1 (g:=9) (Step.out ?_))|(refine Met.by (g:=9) (next_ct _ _) ?_;rintro q outs ⟨x,d,hx,rfl,rfl⟩)
 refine Lf2.by (decide (x=0)) d trivial ?_
 repeat' first|refine S0 ?_;conv=>whnf|exact T0|exact T1|refine T2 ?_ ?_
theorem pick_ct_c (d:Dk) (l:List Str) (h1:1<=l.length) (h2:l.length<=1000):Ct Tryz.prog 161 [d.b,strs l] fun r outs=>∃ x d',x ∈ l/\r = .str x/\outs = [Dk.b d']:=by
 refine .some2 (De Tryz.func161 [] [] ?_)
 repeat' first|refine S0 ?_;conv=>whnf|refine Vo ?_|(refine CallOK.io1 (g:=9) (Step.out ?_))|(refine Met.by (g:=9) (next_ct _ _) ?_;rintro q outs ⟨x,d,hx,rfl,rfl⟩)
 refine Lf2.by (l.getD x.toNat []) d (getD_mem (by omega)) ?_
 repeat' first|refine S0 ?_;conv=>whnf|exact T0|exact T1|refine T2 ?_ ?_
theorem dk_wk_c (d:Dk):ioEq [d.b] [d.b]=true/\wkD d.b d.b false:=⟨rfl,⟨⟨rfl,fun _ _=>rfl⟩,rfl,rfl,trivial⟩⟩
theorem picks_ct_c (d:Dk) (l:List Str) (h1:1<=l.length) (h2:l.length<=1000):Ct Tryz.prog 161 [d.b,.tab 1 l.length fun i=>selC (l.map fun s=>[D.str s]) i] fun r outs=>∃ x d',x ∈ l/\r = .str x/\outs = [Dk.b d'] :=
 .lit2 l (dk_wk_c d) (pick_ct_c d l h1 h2)
theorem value_ct_c (d:Dk):Ct Tryz.prog 159 [d.b] fun r outs=>∃ x d',x.length<=9/\r = .str x/\outs = [Dk.b d']:=by
 refine .some2 (De Tryz.func159 [] [] ?_)
 repeat' first|refine S0 ?_;conv=>whnf|(refine Met.by (picks_ct_c d [[],[97,110,110,97],[98,111,98,32,115,109,105,116,104],[50,48,48,48,48,50,48,51],[56,48,48,49],[120]] (by decide) (by decide)) ?_;rintro q outs ⟨x,d,hx,rfl,rfl⟩)|(refine CallOK.io1F (g:=161) (Step.out ?_))
 refine Lf2.by x d ?_ ?_
 ·revert x;decide
 repeat' first|refine S0 ?_;conv=>whnf|exact T0|exact T1|refine T2 ?_ ?_
theorem range_ct (d:Dk) (a b:Int) (h : -1000<=a/\a<=b/\b<=1000):Ct Tryz.prog 26 [d.b,i64 a,i64 b] fun r outs=>∃ x d',(a<=x/\x<=b)/\r=i64 x/\outs = [Dk.b d']:=by
 refine .some2 (De Tryz.func26 [] [] ?_)
 repeat' first|refine S0 ?_;conv=>whnf|refine W6 ?_|(refine CallOK.io1 (g:=9) (Step.out ?_))|(refine Met.by (g:=9) (next_ct _ _) ?_;rintro q outs ⟨x,d,hx,rfl,rfl⟩)
 refine Lf2.by (a+x) d (by omega) ?_
 repeat' first|refine S0 ?_;conv=>whnf|exact T0|exact T1|refine T2 ?_ ?_
theorem ev_end (d:Dk) {a b c e f:Int} {V:D} (l:List Str) (hl:l.length<=100) (hV:Step (wkD (strs l) V false)):Lf2 (fun (y:Ev) (_:Dk)=>y.vals.length<=100) fun y z=>Two (wkD y.d (.agg [i64 a,i64 b,i64 c,V,i64 e,i64 f]) false) (wkL [z.b] [d.b] false):=by
 refine Lf2.by ⟨a,b,c,l,e,f⟩ d hl ?_
 refine Step.mk ?_;refine Two.mk ⟨rfl,rfl,rfl,hV.out,rfl,rfl,trivial⟩ ?_;exact ⟨⟨⟨rfl,fun _ _=>rfl⟩,rfl,rfl,trivial⟩,trivial⟩
theorem event_ct (d:Dk) (n:Nat) (hn:n<=10):Ct Tryz.prog 98 [d.b,i64 n] fun r outs=>∃ (e:Ev) (d' : Dk),e.vals.length<=100/\r=e.d/\outs = [Dk.b d']:=by
 refine .some2 (De Tryz.func98 ord98 [] ?_)
 repeat' first|refine S0 ?_;conv=>whnf|refine Vo ?_|refine Vb ?_|refine W6 ?_|(refine Br.d (fun h=>?_) fun h=>?_)|(refine Bm (fun h=>?_) fun h=>?_)|(refine CallOK.io1 (g:=8) (Step.out ?_))|(refine CallOK.io1 (g:=9) (Step.out ?_))|(refine CallOK.io1 (g:=26) (Step.out ?_))|(refine Met.by (g:=8) (one_ct_c _ _) ?_;rintro q outs ⟨x,d,hx,rfl,rfl⟩)|(refine Met.by (g:=9) (next_ct _ _) ?_;rintro q outs ⟨x,d,hx,rfl,rfl⟩)|(refine Met.by (g:=26) (range_ct _ _ _ (by omega)) ?_;rintro q outs ⟨x,d,hx,rfl,rfl⟩)
 all_goals try
  refine ev_end d [] (by simp) ?_
  repeat' first|refine S0 ?_;conv=>whnf|exact T0
  done
 ·refine ev_end d [[121]] (by simp) ?_
  repeat' first|refine S0 ?_;conv=>whnf
  exact ⟨rfl,fun i hi=>by obtain rfl:i=0:=by (simp at hi;omega)
                          rfl⟩
 ·refine ev_end d [[121]] (by simp) ?_
  repeat' first|refine S0 ?_;conv=>whnf
  exact ⟨rfl,fun i hi=>by obtain rfl:i=0:=by (simp at hi;omega)
                          rfl⟩
 rename_i a0 _ ha0 b0 _ hb0;refine Lw ord98 [] (α:=Nat × Dk × List Str) (fun z=>[(0,.loc 0 0),(1,i64 n),(4,.loc 1 0),(5,.loc 2 0),(6,i64 z.1)]) (fun z=>[(0,.var z.2.1.ls),(1,.var [i64 0,i64 0,i64 0,.nil,i64 0,i64 0]),(2,.var [i64 1,i64 (1+a0),i64 (1+b0),.own 3,i64 0,i64 0]),(3,.arr 9 1 z.2.2.length fun j=>[.str (z.2.2.getD j [])])]) 4 (fun z=>z.1<=n/\z.2.2.length<=z.1) (fun z=>n - z.1) ?_ ?_
 ·refine Again.by (0,d,[]) ⟨zle _,Nat.le_refl _⟩ ?_
  repeat' first|refine S0 ?_;conv=>whnf|refine Vo ?_|exact T0|refine Vm ?_ ?_
  all_goals rfl
 ·intro ⟨i,d,l⟩ ⟨h1,h2⟩;dsimp only at h1 h2 ⊢
  repeat' first|refine S0 ?_;conv=>whnf|refine Vo ?_|refine Vb ?_|refine W6 ?_|(refine Br.d (fun h=>?_) fun h=>?_)|refine T2 ?_ ?_|(refine CallOK.io1 (g:=9) (Step.out ?_))|(refine CallOK.io1 (g:=26) (Step.out ?_))|(refine CallOK.io1 (g:=159) (Step.out ?_))|(refine Met.by (g:=9) (next_ct _ _) ?_;rintro q outs ⟨x,d,hx,rfl,rfl⟩)|(refine Met.by (g:=26) (range_ct _ _ _ (by omega)) ?_;rintro q outs ⟨x,d,hx,rfl,rfl⟩)|(refine Met.by (g:=159) (value_ct_c _) ?_;rintro q outs ⟨x,d,hx,rfl,rfl⟩)
  all_goals try
   refine ev_end d l (by omega) ?_
   repeat' first|refine S0 ?_;conv=>whnf|exact T1
   all_goals exact ⟨rfl,fun _ _=>rfl⟩
  all_goals try
   refine ev_end d (l ++ [[121]]) (by simp;omega) ?_
   repeat' first|refine S0 ?_;conv=>whnf
   exact app1 (fun s:Str=>[D.str s]) [] (fun _ _ _ _=>rfl) l [121]
  all_goals try
   refine Again.by (i+1,d,l ++ [x]) ⟨⟨by dsimp only;omega,by simp;omega⟩,by dsimp only;omega⟩ ?_
   repeat' first|refine S0 ?_;conv=>whnf|refine Vo ?_|exact T0|refine Vm ?_ ?_
   exact app1 (fun s:Str=>[D.str s]) [] (fun _ _ _ _=>rfl) l x
end Kx
open Go Sx Go.Proofs
namespace Kx
theorem less_cmp (a b:Str):Op.bytesLess a b=true->cmpS a b = -1:=fun h=>by rw [cmpS,h];rfl
theorem rcompare_ct (a b:List Str) (ha:a.length<=1000000) (hb:b.length<=1000000):Cr 331 [strs a,strs b] (i64 (cmpV a b)):=by
 refine .det (De Tryz.func331 ord331 [] ?_)
 repeat' first|refine S0 ?_;conv=>whnf
 refine Lw ord331 [] (α:=Nat) (fun i=>[(0,strs a),(1,strs b),(5,i64 i)]) (fun i=>[]) 0 (fun i=>i<=a.length/\i<=b.length/\cmpV a b=cmpV (a.drop i) (b.drop i)) (fun i=>a.length - i) ?_ ?_
 ·refine Again.by 0 ⟨zle _,zle _,rfl⟩ ?_
  repeat' first|refine S0 ?_;conv=>whnf|refine Vo ?_|exact T0
 ·intro i ⟨h1,h2,hv⟩
  repeat' first|refine S0 ?_;conv=>whnf|refine Vo ?_|exact T0|refine W6 ?_|refine B1 ?_|refine B0 ?_|(refine Br.d (fun h=>?_) fun h=>?_)|refine Br.bnot ?_|(refine Bm (fun h=>?_) fun h=>?_)|refine T2 ?_ ?_
  all_goals try simp only [tnc] at *
  ·rw [hv,cmpV_step a b i (by omega) (by omega),less_cmp _ _ h];rfl
  ·have h0:Op.bytesLess (a.getD i []) (b.getD i [])=false:=‹_›;rw [h0,Bool.false_or,decide_eq_true_eq] at h
   refine Again.by (i+1) ⟨⟨by omega,by omega,?_⟩,by omega⟩ ?_
   ·rw [hv,cmpV_step a b i (by omega) (by omega),if_neg];exact not_not_intro ((cmpS_ok.eq _ _).2 h)
   ·repeat' first|refine S0 ?_;conv=>whnf|refine Vo ?_|exact T0
  ·have h0:Op.bytesLess (a.getD i []) (b.getD i [])=false:=‹_›;rw [h0,Bool.false_or,decide_eq_false_iff_not] at h;rw [hv,cmpV_step a b i (by omega) (by omega),cmpS,h0,cond_false,if_neg h,if_pos (by decide)]
  ·rw [hv,ddl (show b.length<=i by omega),drop_step a [] i (by omega)];rfl
  ·rw [hv,ddl (show a.length<=i by omega),drop_step b [] i (by omega)];rfl
  ·rw [hv,ddl (show a.length<=i by omega),ddl (show b.length<=i by omega)];rfl
end Kx
open Go Sx Go.Proofs
namespace Kx
def Im (d d' : D):Prop:=∀ (M:Mi) (v:Value),Rd M true d v->Rd M true d' v
def ImL (l l' : List D):Prop:=∀ (M:Mi) (vs:List Value),RdL M true l vs->RdL M true l' vs
theorem Im.refl (d:D):Im d d:=fun _ _ h=>h
theorem ImL.nil:ImL [] []:=fun _ _ h=>h
theorem ImL.cons {d d' : D} {l l' : List D} (h:Im d d') (hl:ImL l l'):ImL (d :: l) (d' :: l'):=fun M vs H=>by
 cases vs with
 | nil=>simp [RdL] at H
 | cons v vs =>
   simp only [RdL] at H ⊢;exact ⟨H.1,h M v H.2.1,hl M vs H.2.2⟩
theorem ImL.refl (l:List D):ImL l l:=fun _ _ h=>h
theorem Im.tab {sz n n' : Nat} {f f' : Nat->List D} (hn:n=n') (h:∀ i,i<n->ImL (f i) (f' i)):Im (.tab sz n f) (.tab sz n' f'):=fun M v H=>by
 subst hn;simp only [Rd] at H ⊢;obtain ⟨a,cap,rfl,hc,H⟩:=H;refine ⟨a,cap,rfl,hc,fun i hi=>?_⟩;obtain ⟨b,off,ha,hS,vs,hl,hc,hr⟩:=H i hi;exact ⟨b,off,ha,hS,vs,hl,hc,h i hi M vs hr⟩
theorem Im.agg {l l' : List D} (h:ImL l l'):Im (.agg l) (.agg l'):=fun M v H=>by
 simp only [Rd] at H ⊢;obtain ⟨cs,rfl,H⟩:=H;exact ⟨cs,rfl,h M _ H⟩
theorem Im.nil (sz:Nat) (f:Nat->List D):Im .nil (.tab sz 0 f):=fun M v H=>Rd.nil_tab H sz f
def ImT:List D->List D->Prop
 | [],[]=>True| d :: l,d' :: l'=>Im d d'/\ImT l l'| _,_=>False
theorem ImT.rd {M:Mi}:∀ {l l' : List D} {vs:List Value},ImT l l'->RdT M true l vs->RdT M true l' vs
 | [],[],_,_,h=>h
 | d :: l,d' :: l',v :: vs,hi,h=>by
   simp only [RdT,ImT] at *;exact ⟨hi.1 M v h.1,ImT.rd hi.2 h.2⟩
 | _ :: _,_ :: _,[],_,h=>by simp [RdT] at h
 | [],_ :: _,_,hi,_=>by simp [ImT] at hi
 | _ :: _,[],_,hi,_=>by simp [ImT] at hi
mutual
def plD:D->Bool
 | .ftab ..=>false| .fbox _=>false| .fmap _=>false| .foar ..=>false| .ffam ..=>false| .agg l=>plL l| .tup l=>plL l| .fn _ l=>plL l| _=>true
def plL:List D->Bool
 | []=>true| d :: l=>plD d && plL l
end
mutual
theorem Od.pl {M:Mi}:∀ (d:D) (v:Value) (F:List Nat),plD d=true->Od M d v F->Rd M true d v/\F = []
 | .ftab ..,_,_,h,_=>by simp [plD] at h
 | .fbox _,_,_,h,_=>by simp [plD] at h
 | .fmap _,_,_,h,_=>by simp [plD] at h
 | .foar ..,_,_,h,_=>by simp [plD] at h
 | .ffam ..,_,_,h,_=>by simp [plD] at h
 | .agg l,v,F,h,ho=>by
   simp only [plD] at h;simp only [Od] at ho;obtain ⟨cs,rfl,ho⟩:=ho;have:=OdL.pl l cs.toList F h ho;exact ⟨by simp only [Rd];exact ⟨cs,rfl,this.1⟩,this.2⟩
 | .tup l,v,F,h,ho=>by
   simp only [plD] at h;simp only [Od] at ho;obtain ⟨cs,rfl,ho⟩:=ho;have:=OdT.pl l cs.toList F h ho;exact ⟨by simp only [Rd];exact ⟨cs,rfl,this.1⟩,this.2⟩
 | .fn f l,v,F,h,ho=>by
   simp only [plD] at h;simp only [Od] at ho;obtain ⟨cs,rfl,ho⟩:=ho;have:=OdL.pl l cs.toList F h ho;exact ⟨by simp only [Rd];exact ⟨cs,rfl,this.1⟩,this.2⟩
 | .any,v,F,_,h | .val _,v,F,_,h | .int ..,v,F,_,h | .lit _,v,F,_,h | .bool _,v,F,_,h | .str _,v,F,_,h | .nil,v,F,_,h | .tab ..,v,F,_,h | .vec ..,v,F,_,h | .ref _,v,F,_,h | .null,v,F,_,h | .nilfn,v,F,_,h | .own _,v,F,_,h | .loc ..,v,F,_,h | .pel ..,v,F,_,h | .rsl ..,v,F,_,h | .mref _,v,F,_,h | .mapb _,v,F,_,h=>by
   simpa only [Od] using h
theorem OdL.pl {M:Mi}:∀ (l:List D) (vs:List Value) (F:List Nat),plL l=true->OdL M l vs F->RdL M true l vs/\F = []
 | [],[],F,_,h=>by simp only [OdL] at h;exact ⟨by simp [RdL],h⟩
 | d :: l,v :: vs,F,h,ho=>by
   simp only [plL,bat] at h;simp only [OdL] at ho;obtain ⟨h0,F1,F2,rfl,h1,h2⟩:=ho;have a:=Od.pl d v F1 h.1 h1;have b:=OdL.pl l vs F2 h.2 h2;exact ⟨by simp only [RdL];exact ⟨h0,a.1,b.1⟩,by rw [a.2,b.2];rfl⟩
 | [],_ :: _,_,_,h=>by simp [OdL] at h
 | _ :: _,[],_,_,h=>by simp [OdL] at h
theorem OdT.pl {M:Mi}:∀ (l:List D) (vs:List Value) (F:List Nat),plL l=true->OdT M l vs F->RdT M true l vs/\F = []
 | [],[],F,_,h=>by simp only [OdT] at h;exact ⟨by simp [RdT],h⟩
 | d :: l,v :: vs,F,h,ho=>by
   simp only [plL,bat] at h;simp only [OdT] at ho;obtain ⟨F1,F2,rfl,h1,h2⟩:=ho;have a:=Od.pl d v F1 h.1 h1;have b:=OdT.pl l vs F2 h.2 h2;exact ⟨by simp only [RdT];exact ⟨a.1,b.1⟩,by rw [a.2,b.2];rfl⟩
 | [],_ :: _,_,_,h=>by simp [OdT] at h
 | _ :: _,[],_,_,h=>by simp [OdT] at h
end
theorem Ct.read {P:Program} {g:FuncId} {args args' : List D} {R:D->List D->Prop} (H:Ct P g args' R) (hp:plL args=true) (h:ImT args args'):Ct P g args R:=by
 refine ⟨H.fn,fun w S0 vs F hS hod hnd hFS=>?_⟩;obtain ⟨hr,rfl⟩:=OdT.pl args vs.toList F hp hod;have hr':=h.rd hr;refine (H.ok w S0 vs [] hS (OdT.of_rd _ _ hr') List.nodup_nil ⟨nofun,hFS.2⟩).mono ?_
 rintro e w' ⟨v,r,outs,S',F',rfl,hR,hB,hO⟩
 rw [ioV_rd _ _ hr'] at hO;exact ⟨v,r,outs,S',F',rfl,hR,hB,by rw [ioV_rd _ _ hr];exact hO⟩
end Kx
open Go Sx Go.Proofs
namespace Kx
structure Pj where
 n:Int
 k:Int × Int
 r:List Int
 l:Bool
def Pj.f (p:Pj):List D:=[i64 p.n,u64 p.k.1,u64 p.k.2,ints p.r,.bool p.l]
def Pj.z:Pj:=⟨0,(0,0),[],false⟩
def pjs (l:List Pj):D:=.tab 5 l.length fun i=>(l.getD i Pj.z).f
structure RegsOk (l:List Int):Prop where
 n2:2<=l.length
 n4:l.length<=4
 p:l.Pairwise (· < ·)
 b:∀ x ∈ l,0<=x/\x<4
theorem regs01:RegsOk [0,1]:=⟨by decide,by decide,by decide,by decide⟩
theorem regs_step {l:List Int} {m:Nat} (h:l.Pairwise (· < ·)/\(∀ x ∈ l,0<=x/\x<m)/\l.length<=m):(l ++ [(m:Int)]).Pairwise (· < ·)/\(∀ x ∈ l ++ [(m:Int)],0<=x/\x<((m+1:Nat):Int))/\(l ++ [(m:Int)]).length<=m+1:=by
 obtain ⟨h1,h2,h3⟩:=h;refine ⟨List.pairwise_append.2 ⟨h1,by simp,fun x hx y hy=>?_⟩,fun x hx=>?_,by simp;omega⟩
 ·rw [List.mem_singleton.1 hy];exact (h2 x hx).2
 ·rcases List.mem_append.1 hx with hx | hx
  ·have:=h2 x hx;omega
  ·rw [List.mem_singleton.1 hx];omega
theorem ite_i (c:Prop) [Decidable c] (x y:Int):iteL c [i64 x] [i64 y] = [i64 (if c then x else y)]:=rfl
theorem project_ct (d:Dk) (n:Int):Ct Tryz.prog 27 [d.b,i64 n,i64 3] fun r outs=>∃ (p:Pj) (d' : Dk),(p.n=n/\RegsOk p.r)/\r = .agg p.f/\outs = [Dk.b d']:=by
 refine .some2 (De Tryz.func27 [] [] ?_)
 repeat' first|refine S0 ?_;conv=>whnf|(refine CallOK.io1 (g:=8) (Step.out ?_))|(refine CallOK.io1 (g:=23) (Step.out ?_))|(refine Met.by (g:=8) (one_ct_c _ _) ?_;rintro q outs ⟨x,d,hx,rfl,rfl⟩)|(refine Met.by (g:=23) (key_ct _) ?_;rintro q outs ⟨k,d,hk,rfl,rfl⟩)
 revert x;intro y
 refine Lw [] [] (α:=List Int × Nat × Dk) (fun z=>[(0,.loc 0 0),(2,i64 3),(6,.loc 1 0),(7,.loc 2 0),(8,i64 z.2.1)]) (fun z=>[(0,.var z.2.2.ls),(1,.var Pj.z.f),(2,.var [i64 n,u64 k.1,u64 k.2,.own 3,.bool y]),(3,.arr 3 1 z.1.length fun i=>[i64 (z.1.getD i 0)])]) 4 (fun z=>z.2.1<=3/\z.1.Pairwise (· < ·)/\(∀ x ∈ z.1,0<=x/\x<z.2.1)/\z.1.length<=z.2.1) (fun z=>3 - z.2.1) ?_ ?_
 ·refine Again.by ([],0,‹Dk›) ⟨zle _,List.Pairwise.nil,nofun,zle _⟩ ?_
  repeat' first|refine S0 ?_;conv=>whnf|refine Vo ?_|refine Vb ?_|exact T0|(rfl)|refine Vm ?_ ?_
 ·intro ⟨l,m,d⟩ ⟨h1,h2⟩;dsimp only at h1 h2 ⊢
  repeat' first|refine S0 ?_;conv=>whnf|refine Vb ?_|refine W6 ?_|(refine Br.d (fun h=>?_) fun h=>?_)|refine Br.bnot ?_|(refine Bm (fun h=>?_) fun h=>?_)|(refine CallOK.io1 (g:=8) (Step.out ?_))|(refine Met.by (g:=8) (one_ct_c _ _) ?_;rintro q outs ⟨x,d,hx,rfl,rfl⟩)
  ·refine Again.by (l,m+1,d) ⟨⟨by dsimp only;omega,h2.1,fun x hx=>by have:=h2.2.1 x hx;dsimp only;omega,by dsimp only;omega⟩,by dsimp only;omega⟩ ?_
   repeat' first|refine S0 ?_;conv=>whnf|refine Vo ?_|refine Vb ?_|exact T0
  ·refine Again.by (l ++ [(m:Int)],m+1,d) ⟨⟨by dsimp only;omega,regs_step h2⟩,by dsimp only;omega⟩ ?_
   repeat' first|refine S0 ?_;conv=>whnf|refine Vo ?_|refine Vb ?_|exact T0|(exact app1 (fun x:Int=>[i64 x]) 0 ite_i l _)|refine Vm ?_ ?_
  ·refine Lf2.by ⟨n,k,[0,1],y⟩ d ⟨rfl,regs01⟩ ?_
   repeat' first|refine S0 ?_;conv=>whnf|exact T0|exact T1|(exact ⟨rfl,fun i hi=>by rcases (show i=0\/i=1 by simp at hi;omega) with rfl | rfl<;>rfl⟩)|refine T2 ?_ ?_
  ·refine Lf2.by ⟨n,k,l,y⟩ d ⟨rfl,⟨by dsimp only;omega,by dsimp only;omega,h2.1,fun x hx=>by have:=h2.2.1 x hx;omega⟩⟩ ?_
   repeat' first|refine S0 ?_;conv=>whnf|exact T0|exact T1|refine T2 ?_ ?_
end Kx
open Go Sx Go.Proofs
namespace Kx
structure Ex where
 f:Int
 u:Int
 h:Int
 c:Int
 l:Int
def Ex.d (x:Ex):List D:=[i64 x.f,i64 x.u,i64 x.h,i64 x.c,i64 x.l]
def Ex.z:Ex:=⟨0,0,0,0,0⟩
def exs (l:List Ex):D:=.tab 5 l.length fun i=>(l.getD i Ex.z).d
def nils (n:Nat):D:=.tab 1 n fun _=>[.nil]
structure Stg where
 s:Sc
 P:List Pm
 K:List (List Cp)
 B:List Ex
 sim:List Int
 pr:Int
 ag:List Int
 di:List Int
 lo:Int
 hi:Int
 pj:List Pj
 m:Int × Int
def Stg.l (S:Stg):List D:=[fdsN S.s.f S.s.f.length,strs S.s.r.t,prs S.s.r.n,prs S.s.r.s,.tab 3 S.P.length (pmsL S.P),kys S.K,nils S.s.f.length,exs S.B,ints S.sim,i64 S.pr,ints S.ag,ints S.di,i64 S.lo,i64 S.hi,pjs S.pj,u64 S.m.1,u64 S.m.2]
def Stg.d (S:Stg):D:=.agg S.l
structure BdOk (n:Nat) (B:List Ex):Prop where
 len:B.length=n
 b:∀ i,i<n->(B.getD i Ex.z).f=i/\(0<=(B.getD i Ex.z).u/\(B.getD i Ex.z).u<=64)/\(0<=(B.getD i Ex.z).h/\(B.getD i Ex.z).h<=64)/\(0<=(B.getD i Ex.z).c/\(B.getD i Ex.z).c<=512)/\(0<=(B.getD i Ex.z).l/\(B.getD i Ex.z).l<=1000)
structure PjOk (l:List Pj):Prop where
 n:l.length<=2
 r:∀ p ∈ l,RegsOk p.r/\1<=p.n/\p.n<=4
 a:∀ i,i<l.length->2*(i:Int)+1<=(l.getD i Pj.z).n/\(l.getD i Pj.z).n<=2*(i:Int)+2
structure Stg.ok (S:Stg):Prop where
 s:ScD S.s
 n3:S.s.f.length<=3
 P:PsL S.s.f.length S.P
 Pn:S.P.length=S.s.f.length
 K1:1<=S.K.length
 K5:S.K.length<=5
 K:∀ k ∈ S.K,KyOk S.s k
 B:BdOk S.s.f.length S.B
 simn:S.sim.length=S.s.f.length
 sim:∀ x ∈ S.sim,0<=x/\x<=1000
 pr:S.pr = -20
 agn:S.ag.length=S.s.f.length
 ag:∀ x ∈ S.ag,20<=x/\x<=49
 din:S.di.length=S.s.f.length
 di:∀ x ∈ S.di,-29<=x/\x<=0
 hi:20<=S.hi/\S.hi<=39
 lo : -10<=S.lo/\S.lo<=20
 pj:PjOk S.pj
 m:U64 S.m.1/\U64 S.m.2
def stN:List Str:=[[110,97,109,101],[98,105,114,116,104],[99,111,100,101]]
def stK:List Int:=[1,2,3]
def stF:List Fd:=[([110,97,109,101],1),([98,105,114,116,104],2),([99,111,100,101],3)]
theorem stF_step {f:List Fd} (h:f=stF.take f.length) (hl:f.length<3):f ++ [(stN.getD f.length [],stK.getD f.length 0)]=stF.take (f ++ [(stN.getD f.length [],stK.getD f.length 0)]).length:=by
 rw [lap,List.length_singleton];generalize f.length=n at *;subst h
 rcases (show n=0\/n=1\/n=2 by omega) with rfl | rfl | rfl<;>rfl
theorem stF_ok {f:List Fd} (h:f=stF.take f.length) (h2:2<=f.length) (h3:f.length<=3) {r:Ru} (hr:RuD r):ScD ⟨f,r⟩:=by
 have hn:f=stF.take 2\/f=stF.take 3:=by
  rcases (show f.length=2\/f.length=3 by omega) with e | e<;>rw [e] at h
  ·exact .inl h
  ·exact .inr h
 have hw:∀ x ∈ stF,wordB x.1=true/\1<=x.2/\x.2<=4:=by decide +kernel
 have hin:∀ x ∈ f,x ∈ stF:=fun x hx=>by rw [h] at hx;exact List.mem_of_mem_take hx
 refine ⟨by show 1<=f.length;omega,by show f.length<=4;omega,⟨by show 1<=f.length;omega,by show f.length<=5;omega,fun x hx=>(hw x (hin x hx)).1,fun i j hij hj=>?_,fun x hx=>(hw x (hin x hx)).2,hr.ok,hr.check⟩,hr⟩
 have hd:∀ i<3,∀ j<3,i<j->(stF.getD i ([],0)).1≠(stF.getD j ([],0)).1:=by decide +kernel
 have hg:∀ i,i<f.length->f.getD i ([],0)=stF.getD i ([],0):=fun i hi=>by
  rw [h,gDe,List.getElem?_take,if_pos hi,<-gDe]
 have hj:j<f.length:=hj
 show (f.getD i ([],0)).1≠(f.getD j ([],0)).1
 rw [hg i (by omega),hg j hj];exact hd i (by omega) j (by omega) hij
end Kx
open Go Sx Go.Proofs
namespace Kx
theorem Ct.readR {P:Program} {g:FuncId} {args:List D} {R R' : D->List D->Prop} (H:Ct P g args R) (h:∀ r outs,R r outs->plD r=true/\∃ r',Im r r'/\R' r' outs):Ct P g args R':=by
 refine ⟨H.fn,fun w S0 vs F hS hod hnd hFS=>(H.ok w S0 vs F hS hod hnd hFS).mono ?_⟩
 rintro e w' ⟨v,r,outs,S',F',rfl,hR,hB,hO⟩
 obtain ⟨hp,r',hi,hR'⟩:=h r outs hR;simp only [OdT] at hO;obtain ⟨F1,F2,rfl,h1,h2⟩:=hO;obtain ⟨h3,rfl⟩:=Od.pl r v F1 hp h1;have h4:=OdT.of_rd [r'] [v] (by simp only [RdT];exact ⟨hi _ _ h3,trivial⟩);simp only [OdT] at h4;obtain ⟨G1,G2,e1,h5,e2⟩:=h4
 have e3:G1 = []:=by
  cases G1 with
  | nil=>rfl| cons a b=>simp at e1
 subst e3;exact ⟨v,r',outs,S',[] ++ F2,rfl,hR',hB,by simp only [OdT];exact ⟨[],F2,rfl,h5,h2⟩⟩
def zS:List D:=[.nil,.nil,.nil,.nil,.nil,.nil,.nil,.nil,.nil,i64 0,.nil,.nil,i64 0,i64 0,.nil,u64 0,u64 0]
theorem stN_at (i:Nat) (h:i<3):selC [[D.str [110,97,109,101]],[.str [98,105,114,116,104]],[.str [99,111,100,101]]] i = [.str (stN.getD i [])]:=selC_str stN i h
theorem stK_at (i:Nat) (h:i<3):selC [[i64 1],[i64 2],[i64 3]] i = [i64 (stK.getD i 0)]:=selC_get (fun x:Int=>[i64 x]) 0 (fun _ _=>rfl) stK i h
def kyR (K:List (List Cp)) (x:Int):D:=.tab 1 (K.length+1) fun i=>iteL (i<K.length) [cps (K.getD i [])] (selC [[.tab 2 1 fun j=>selC [[i64 x,i64 3]] j]] (i - K.length))
def bnd (i:Nat):Ex:=⟨i,64,64,512,1000⟩
theorem ky3 {s:Sc} (x:Int) (h0:0<=x) (h1:x<s.f.length):KyOk s [(x,3)]:=⟨by simp,by simp,fun i hi=>by
 simp only [List.length_cons,List.length_nil] at hi
 obtain rfl:i=0:=by omega
 exact ⟨h0,h1,rfl⟩,fun i hi=>by
 simp only [List.length_cons,List.length_nil] at hi
 obtain rfl:i=0:=by omega
 exact h1,fun i hi=>by simp at hi⟩
theorem mem_snoc {α:Type} {l:List α} {p:α->Prop} (h:∀ x ∈ l,p x) {y:α} (hy:p y):∀ x ∈ l ++ [y],p x:=fun x hx=>by
 rcases List.mem_append.1 hx with hx | hx
 ·exact h x hx
 ·rw [List.mem_singleton.1 hx];exact hy
theorem nil_app (l:List Int) (x:Int):l.length+1=(l ++ [x]).length/\∀ i,i<(l ++ [x]).length->iteL (i<l.length) [D.nil] (selC [[D.nil]] (i - l.length)) = [D.nil] :=
 ⟨by simp,fun i hi=>by
  show [if i<l.length then D.nil else D.nil]=_
  rw [ite_self]⟩
theorem con_app (l:List Int) (x c:Int):l.length+1=(l ++ [x]).length/\∀ i,i<(l ++ [x]).length->iteL (i<l.length) [i64 c] (selC [[i64 c]] (i - l.length)) = [i64 c] :=
 ⟨by simp,fun i hi=>by
  show [i64 (if i<l.length then c else c)]=_
  rw [ite_self]⟩
theorem bnd_app (l:List Int) (x:Int):l.length+1=(l ++ [x]).length/\∀ i,i<(l ++ [x]).length->iteL (i<l.length) (bnd i).d (selC [[i64 l.length,i64 64,i64 64,i64 512,i64 1000]] (i - l.length))=(bnd i).d :=
 ⟨by simp,fun i hi=>by
  rw [lap,List.length_singleton] at hi
  show [i64 (if i<l.length then (i:Int) else l.length),i64 (if _ then 64 else 64),i64 (if _ then 64 else 64),i64 (if _ then 512 else 512),i64 (if _ then 1000 else 1000)]=_
  by_cases e:i<l.length
  ·simp only [if_pos e];rfl
  ·obtain rfl:i=l.length:=by omega
   simp only [if_neg e];rfl⟩
def bd0 (n:Nat):List Ex:=(List.range n).map bnd
def bdU (n p:Nat) (u:Int):List Ex:=(List.range n).map fun j=>if j=p then ⟨p,u,64,512,1000⟩ else bnd j
theorem getD_mr {α:Type} (n:Nat) (F:Nat->α) (z:α) (i:Nat) (h:i<n):((List.range n).map F).getD i z=F i:=by simp [List.getD,h]
theorem c64:(0:Int)<=64/\(64:Int)<=64:=by decide
theorem c512:(0:Int)<=512/\(512:Int)<=512:=by decide
theorem c1000:(0:Int)<=1000/\(1000:Int)<=1000:=by decide
theorem bd0_ok (n:Nat):BdOk n (bd0 n):=⟨by simp [bd0],fun i hi=>by
 rw [bd0,getD_mr _ _ _ _ hi]
 exact ⟨rfl,c64,c64,c512,c1000⟩⟩
theorem bdU_ok (n p:Nat) (u:Int) (h:0<=u/\u<=64):BdOk n (bdU n p u):=⟨by simp [bdU],fun i hi=>by
 rw [bdU,getD_mr _ _ _ _ hi];split
 ·rename_i e;exact ⟨by rw [e],h,c64,c512,c1000⟩
 ·exact ⟨rfl,c64,c64,c512,c1000⟩⟩
theorem bd0_at {n m:Nat} (hm:m=n):m=(bd0 n).length/\∀ i,i<(bd0 n).length->(bnd i).d=((bd0 n).getD i Ex.z).d :=
 ⟨by simp [bd0,hm],fun i hi=>by
  rw [bd0,getD_mr _ _ _ _ (by simpa [bd0] using hi)]⟩
theorem bdU_at {n m:Nat} (hm:m=n) (p:Nat) (u:Int):m=(bdU n p u).length/\∀ i,i<(bdU n p u).length->iteL (i=p) [i64 p,i64 u,i64 64,i64 512,i64 1000] (bnd i).d=((bdU n p u).getD i Ex.z).d :=
 ⟨by simp [bdU,hm],fun i hi=>by
  rw [bdU,getD_mr _ _ _ _ (by simpa [bdU] using hi)]
  show [i64 (if i=p then (p:Int) else i),i64 (if i=p then u else 64),i64 (if _ then 64 else 64),i64 (if _ then 512 else 512),i64 (if _ then 1000 else 1000)]=_
  by_cases e:i=p
  ·simp only [if_pos e];rfl
  ·simp only [if_neg e];rfl⟩
theorem rep_at {n m:Nat} (c:Int) (hm:m=n):m=(List.replicate n c).length/\∀ i,i<(List.replicate n c).length->[i64 c] = [i64 ((List.replicate n c).getD i 0)] :=
 ⟨by simp [hm],fun i hi=>by
  rw [List.length_replicate] at hi
  rw [gDe,List.getElem?_replicate,if_pos hi];rfl⟩
theorem ite_pj (c:Prop) [Decidable c] (x y:Pj):iteL c x.f y.f=(if c then x else y).f:=by
 show [i64 (if c then _ else _),u64 (if c then _ else _),u64 (if c then _ else _),D.tab 1 (if c then x.r.length else y.r.length) fun i=>[i64 (if c then x.r.getD i 0 else y.r.getD i 0)],.bool (if c then x.l else y.l)]=_
 split<;>rfl
theorem PjOk.nil:PjOk []:=⟨zle _,nofun,nofun⟩
theorem PjOk.snoc {l:List Pj} (h:PjOk l) (p:Pj) (hl:l.length<2) (x:Int) (hx:0<=x/\x<=1) (hp:p.n=2*((l.length:Int)+1) - x/\RegsOk p.r):PjOk (l ++ [p]):=by
 refine ⟨by simp;omega,fun q hq=>?_,fun i hi=>?_⟩
 ·rcases List.mem_append.1 hq with hq | hq
  ·exact h.r q hq
  ·rw [List.mem_singleton.1 hq];exact ⟨hp.2,by omega,by omega⟩
 ·rw [lap,List.length_singleton] at hi;by_cases e:i<l.length
  ·rw [getD_ap1 _ _ _ _ e];exact h.a i e
  ·obtain rfl:i=l.length:=by omega
   rw [getD_last];omega
def Stg.lr (S:Stg) (K:List (List Cp)) (x:Int):List D:=[fdsN S.s.f S.s.f.length,strs S.s.r.t,prs S.s.r.n,prs S.s.r.s,.tab 3 S.P.length (pmsL S.P),kyR K x,nils S.s.f.length,exs S.B,ints S.sim,i64 S.pr,ints S.ag,ints S.di,i64 S.lo,i64 S.hi,pjs S.pj,u64 S.m.1,u64 S.m.2]
set_option maxHeartbeats 8000000 in
theorem setting_raw (d:Dk):Ct Tryz.prog 7 [d.b] fun r outs=>∃ (S:Stg) (y:List (List Cp) × Int) (d' : Dk),(S.ok/\S.K=y.1 ++ [[(y.2,3)]])/\r = .agg (S.lr y.1 y.2)/\outs = [Dk.b d']:=by
 refine .some3 (De Tryz.func7 ord7 [8] ?_)
 repeat' first|refine S0 ?_;conv=>whnf|(refine CallOK.io1 (g:=22) (Step.out ?_))|(refine CallOK.io1 (g:=23) (Step.out ?_))|(refine Met.by (g:=22) (rules_ct _) ?_;rintro q outs ⟨r,d,hr,rfl,rfl⟩)|(refine Met.by (g:=23) (key_ct _) ?_;rintro q outs ⟨k,d,hk,rfl,rfl⟩)
 have e5:stN.length=3:=rfl;have e6:stK.length=3:=rfl;refine Lw ord7 [] (α:=List Fd × Dk) (fun z=>[(0,.loc 0 0),(2,.loc 1 0),(3,.loc 2 0),(4,ints stK),(5,strs stN),(6,i64 z.1.length)]) (fun z=>[(0,.var z.2.ls),(1,.var zS),(2,.var [.own 3,strs r.t,prs r.n,prs r.s,.nil,.nil,.nil,.nil,.nil,i64 0,.nil,.nil,i64 0,i64 0,.nil,u64 k.1,u64 k.2]),(3,.arr 70 2 z.1.length fun i=>fdF (z.1.getD i ([],0)))]) 4 (fun z=>z.1=stF.take z.1.length/\z.1.length<=3) (fun z=>3 - z.1.length) ?_ ?_
 ·refine Again.by ([],d) ⟨rfl,zle _⟩ ?_
  repeat' first|refine S0 ?_;conv=>whnf|refine Vo ?_|exact T0|(rfl)|(exact ⟨rfl,stN_at⟩)|(exact ⟨rfl,stK_at⟩)|refine Vm ?_ ?_
 ·intro ⟨f,d⟩ ⟨hf,h3⟩;dsimp only at hf h3 ⊢
  repeat' first|refine S0 ?_;conv=>whnf|refine Vo ?_|refine Vb ?_|refine W6 ?_|(refine Br.d (fun h=>?_) fun h=>?_)|(refine CallOK.io1 (g:=9) (Step.out ?_))|(refine Met.by (g:=9) (next_ct _ _) ?_;rintro q outs ⟨x,d,hx,rfl,rfl⟩)
  ·have hx2:=hx.2.2 (by decide)
   refine Again.by (f ++ [(stN.getD f.length [],stK.getD f.length 0)],d) ⟨⟨stF_step hf (by omega),by simp;omega⟩,by simp;omega⟩ ?_
   repeat' first|refine S0 ?_;conv=>whnf|refine Vo ?_|exact T0|(simp;done)|(exact fd_app f _ rfl)|refine Vm ?_ ?_
  ·have hx0:=hx.1;have hs:=stF_ok hf (by omega) h3 hr
   have hl2:2<=f.length:=by omega
   clear hf hx hx0;refine Cw ord7 [13,19,21] (α:=Dk) (fun z=>[(0,.loc 0 0),(2,.loc 1 0),(3,.loc 2 0),(7,i64 f.length)]) (fun z=>[(0,.var z.ls),(1,.var zS),(2,.var [fdsN f f.length,strs r.t,prs r.n,prs r.s,.nil,.nil,.nil,.nil,.nil,i64 0,.nil,.nil,i64 0,i64 0,.nil,u64 k.1,u64 k.2])]) 3 (fun z=>True) ?_ ?_
   ·repeat' first|refine S0 ?_;conv=>whnf
    refine Again.by d trivial ?_
    repeat' first|refine S0 ?_;conv=>whnf|refine Vo ?_|exact T0
   ·intro d _
    repeat' first|refine S0 ?_;conv=>whnf|refine Vb ?_|(refine Met.by (bkeys_ct _ ⟨f,r⟩ hs 2 (by decide)) ?_;rintro q outs ⟨K,d,⟨hK,hKy⟩,rfl,rfl⟩)|(refine Met.by (next_ct _ _) ?_;rintro q outs ⟨q,d,hq,rfl,rfl⟩)|(refine CallOK.io1 (g:=9) (Step.out ?_))|(refine CallOK.io1 (g:=24) (Step.out ?_))|(refine CallOK.io1 (g:=25) (Step.out ?_))|(refine Met.by (g:=24) (pars_ct _ _ (by omega) (by omega)) ?_;rintro q outs ⟨l,d,hl,rfl,rfl⟩)
    have hx2:=hq.2.2 (by omega);have hk3:=ky3 (s:=⟨f,r⟩) q hq.1 (by show q<(f.length:Int);omega);refine Lw ord7 [] (α:=List Int × List Int × Dk) (fun z=>[(0,.loc 0 0),(2,.loc 1 0),(3,.loc 2 0),(7,i64 f.length),(8,i64 z.1.length)]) (fun z=>[(0,.var z.2.2.ls),(1,.var zS),(2,.var [fdsN f f.length,strs r.t,prs r.n,prs r.s,.tab 3 l.length (pmsL l),kyR K q,.own 3,.own 4,.own 5,i64 (-20),.own 6,.own 7,i64 0,i64 0,.nil,u64 k.1,u64 k.2]),(3,.arr 114 1 z.1.length fun _=>[.nil]),(4,.arr 52 5 z.1.length fun i=>(bnd i).d),(5,.arr 3 1 z.1.length fun _=>[i64 800]),(6,.arr 3 1 z.1.length fun i=>[i64 (z.1.getD i 0)]),(7,.arr 3 1 z.2.1.length fun i=>[i64 (z.2.1.getD i 0)])]) 8 (fun z=>z.1.length<=f.length/\z.2.1.length=z.1.length/\(∀ x ∈ z.1,20<=x/\x<=49)/\(∀ x ∈ z.2.1,-29<=x/\x<=0)) (fun z=>f.length - z.1.length) ?_ ?_
    ·refine Again.by ([],[],d) ⟨zle _,rfl,nofun,nofun⟩ ?_
     repeat' first|refine S0 ?_;conv=>whnf|refine Vo ?_|exact T0|(rfl)|(exact ⟨rfl,fun _ _=>rfl⟩)|refine Vm ?_ ?_
    ·intro ⟨A,B,d⟩ ⟨hA,hB,ha,hb⟩;dsimp only at hA hB ha hb ⊢
     repeat' first|refine S0 ?_;conv=>whnf|refine Vb ?_|exact T0|refine W6 ?_|(refine Br.d (fun h=>?_) fun h=>?_)|refine T2 ?_ ?_|(refine CallOK.io1 (g:=9) (Step.out ?_))|(refine Met.by (g:=9) (next_ct _ _) ?_;rintro q outs ⟨x,d,hx,rfl,rfl⟩)
     all_goals try
      rename_i xa _ hxa;have h1:=hxa.2.2 (by decide);have h2:=hx.2.2 (by decide)
      refine Again.by (A ++ [20+xa],B ++ [0 - x],d) ⟨⟨by simp;omega,by simp;omega,mem_snoc ha ⟨by omega,by omega⟩,mem_snoc hb ⟨by omega,by omega⟩⟩,by simp;omega⟩ ?_
      repeat' first|refine S0 ?_;conv=>whnf|refine Vo ?_|exact T0|(simp;done)|(exact nil_app A _)|(exact con_app A _ _)|(exact bnd_app A _)|(exact app1 (fun x:Int=>[i64 x]) 0 ite_i _ _)|refine Vm ?_ ?_
      done
     have hn:A.length=f.length:=by omega
     refine Cw ord7 [] (α:=List Ex × Dk) (fun z=>[(0,.loc 0 0),(2,.loc 1 0),(3,.loc 2 0),(7,i64 f.length)]) (fun z=>[(0,.var z.2.ls),(1,.var zS),(2,.var [fdsN f f.length,strs r.t,prs r.n,prs r.s,.tab 3 l.length (pmsL l),kyR K q,nils f.length,exs z.1,ints (List.replicate f.length 800),i64 (-20),ints A,ints B,i64 0,i64 0,.nil,u64 k.1,u64 k.2])]) 3 (fun z=>BdOk f.length z.1) ?_ ?_
     ·repeat' first|refine S0 ?_;conv=>whnf|refine Vo ?_|(refine Bm (fun h=>?_) fun h=>?_)|refine T2 ?_ ?_|(refine CallOK.io1 (g:=8) (Step.out ?_))|(refine CallOK.io1 (g:=9) (Step.out ?_))|(refine Met.by (g:=8) (one_ct_c _ _) ?_;rintro q outs ⟨x,d,hx,rfl,rfl⟩)|(refine Met.by (g:=9) (next_ct _ _) ?_;rintro q outs ⟨x,d,hx,rfl,rfl⟩)
      all_goals try
       rename_i xi _ hxi;have hx3:=hx.2.2 (by decide)
       refine Again.by (bdU f.length xi.toNat x,d) (bdU_ok _ _ _ (by omega)) ?_
       repeat' first|refine S0 ?_;conv=>whnf|refine Vo ?_|exact T0|(exact bdU_at hn _ _)|(exact rep_at 800 hn)|(exact ⟨hn,fun _ _=>rfl⟩)|refine Vm ?_ ?_
       done
      refine Again.by (bd0 f.length,d) (bd0_ok _) ?_
      repeat' first|refine S0 ?_;conv=>whnf|refine Vo ?_|exact T0|(exact bd0_at hn)|(exact rep_at 800 hn)|(exact ⟨hn,fun _ _=>rfl⟩)|refine Vm ?_ ?_
     ·intro ⟨bd,d⟩ hbd;dsimp only at hbd ⊢
      repeat' first|refine S0 ?_;conv=>whnf|refine W6 ?_|(refine Met.by (next_ct _ _) ?_;rintro q outs ⟨u,d,hu,rfl,rfl⟩)|(refine Met.by (range_ct _ _ _ (by omega)) ?_;rintro q outs ⟨lo,d,hlo,rfl,rfl⟩)|(refine CallOK.io1 (g:=9) (Step.out ?_))|(refine CallOK.io1 (g:=26) (Step.out ?_))
      have hu2:=hu.2.2 (by decide);have hu0:=hu.1;refine Lw ord7 [] (α:=List Pj × Dk) (fun z=>[(0,.loc 0 0),(2,.loc 1 0),(3,.loc 2 0),(9,i64 ((z.1.length:Int)+1))]) (fun z=>[(0,.var z.2.ls),(1,.var zS),(2,.var [fdsN f f.length,strs r.t,prs r.n,prs r.s,.tab 3 l.length (pmsL l),kyR K q,nils f.length,exs bd,ints (List.replicate f.length 800),i64 (-20),ints A,ints B,i64 lo,i64 (20+u),.own 3,u64 k.1,u64 k.2]),(3,.arr 100 5 z.1.length fun i=>(z.1.getD i Pj.z).f)]) 4 (fun z=>PjOk z.1) (fun z=>2 - z.1.length) ?_ ?_
      ·refine Again.by ([],d) PjOk.nil ?_
       repeat' first|refine S0 ?_;conv=>whnf|refine Vo ?_|exact T0|(rfl)|refine Vm ?_ ?_
      ·intro ⟨pj,d⟩ hpj;dsimp only at hpj ⊢;have hpn:=hpj.n
       repeat' first|refine S0 ?_;conv=>whnf|refine Vb ?_|refine W6 ?_|(refine Met.by (next_ct _ _) ?_;rintro q outs ⟨x,d,hx,rfl,rfl⟩)|(refine Br.d (fun h=>?_) fun h=>?_)|refine T2 ?_ ?_|(refine CallOK.io1 (g:=9) (Step.out ?_))|(refine CallOK.io1 (g:=27) (Step.out ?_))|(refine Met.by (g:=27) (project_ct _ _) ?_;rintro q outs ⟨p,d,hp,rfl,rfl⟩)
       all_goals try
        rename_i xn _ hxn _;have hx2:=hx.2.2 (by decide);have hn2:=hxn.2.2 (by decide)
        refine Again.by (pj ++ [p],d) ⟨hpj.snoc p (by omega) x (by omega) hp,by simp;omega⟩ ?_
        repeat' first|refine S0 ?_;conv=>whnf|refine Vo ?_|exact T0|(simp;done)|(exact app1 Pj.f Pj.z ite_pj pj p)|refine Vm ?_ ?_
        done
       refine Lf3.by ⟨⟨f,r⟩,l,K ++ [[(q,3)]],bd,List.replicate f.length 800,-20,A,B,lo,20+u,pj,k⟩ (K,q) d ⟨⟨hs,h3,hl.1,hl.2,by simp,by simp;omega,mem_snoc hKy hk3,hbd,by simp,fun x hx=>by rw [(List.mem_replicate.1 hx).2];decide,rfl,hn,ha,by show B.length=f.length;omega,hb,by show 20<=20+u/\20+u<=39;omega,hlo,hpj,hk⟩,rfl⟩ ?_
       repeat' first|refine S0 ?_;conv=>whnf|exact T0|exact T1|refine T2 ?_ ?_
theorem ite1_pos {c:Prop} [Decidable c] (h:c) (a:Int) (e:D):D.ite1 c (i64 a) e=i64 a:=by
 cases e<;>simp only [i64,D.ite1,if_pos h]
 split<;>simp [h]
theorem ite1_neg {c:Prop} [Decidable c] (h:¬c) (a:Int) (e:D):D.ite1 c e (i64 a)=i64 a:=by
 cases e<;>simp only [i64,D.ite1,if_neg h]
 split
 ·rename_i k _ _ hk
  have:k=IntKind.i64:=by simpa using hk
  rw [this]
 ·rfl
theorem iteL1_pos {c:Prop} [Decidable c] (h:c) (a b:Int) (m:List D):iteL1 c [i64 a,i64 b] m = [i64 a,i64 b]:=by
 unfold iteL1;split
 ·rename_i e
  match m,e with
  | [x,y],_=>simp [zipI,ite1_pos h]| [],e=>simp at e| [_],e=>simp at e| _ :: _ :: _ :: _,e=>simp at e
 ·exact if_pos h
theorem iteL1_neg {c:Prop} [Decidable c] (h:¬c) (a b:Int) (m:List D):iteL1 c m [i64 a,i64 b] = [i64 a,i64 b]:=by
 unfold iteL1;split
 ·rename_i e
  match m,e with
  | [x,y],_=>simp [zipI,ite1_neg h]| [],e=>simp at e| [_],e=>simp at e| _ :: _ :: _ :: _,e=>simp at e
 ·exact if_neg h
theorem im_ky (K:List (List Cp)) (x:Int):Im (kyR K x) (kys (K ++ [[(x,3)]])):=.tab (by simp) fun i hi=>by
 show ImL (iteL (i<K.length) [cps (K.getD i [])] (selC [[.tab 2 1 fun j=>selC [[i64 x,i64 3]] j]] (i - K.length))) [cps ((K ++ [[(x,3)]]).getD i [])]
 rw [show i - K.length=0 by omega]
 show ImL [D.tab 2 (if i<K.length then (K.getD i []).length else 1) fun j=>iteL1 (i<K.length) [i64 ((K.getD i []).getD j (0,0)).1,i64 ((K.getD i []).getD j (0,0)).2] (selC [[i64 x,i64 3]] j)] _
 by_cases e:i<K.length
 ·rw [getD_ap1 _ _ _ _ e];exact .cons (.tab (if_pos e) fun j _=>by rw [iteL1_pos e];exact ImL.refl _) .nil
 ·obtain rfl:i=K.length:=by omega
  rw [getD_last];refine .cons (.tab (if_neg e) fun j hj=>?_) .nil;rw [if_neg e] at hj
  obtain rfl:j=0:=by omega
  rw [show selC [[i64 x,i64 3]] 0 = [i64 x,i64 3] from rfl,iteL1_neg e];exact ImL.refl _
theorem setting_ct (d:Dk):Ct Tryz.prog 7 [d.b] fun r outs=>∃ (S:Stg) (d' : Dk),S.ok/\r=S.d/\outs = [Dk.b d'] :=
 Ct.readR (setting_raw d) fun r outs ⟨S,y,d',⟨hS,hK⟩,hr,ho⟩=>by
  subst hr;refine ⟨rfl,S.d,.agg ?_,S,d',hS,rfl,ho⟩;refine .cons (Im.refl _) (.cons (Im.refl _) (.cons (Im.refl _) (.cons (Im.refl _) (.cons (Im.refl _) (.cons ?_ (ImL.refl _))))));rw [hK];exact im_ky _ _
end Kx
