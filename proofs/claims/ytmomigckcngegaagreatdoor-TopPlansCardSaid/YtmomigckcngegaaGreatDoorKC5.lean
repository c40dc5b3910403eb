/-
  Where a hash stands among the hashes of blocks.
  No condition beyond those written in each theorem.
-/
import Derived.Test.YtmomigckcngegaaGreatDoorKC1
import Derived.Test.YtmomigckcngegaaGreatDoorFD
import Derived.Test.YtmomigckcngegaaGreatDoorKC4
import Derived.Test.YtmomigckcngegaaGreatDoorKC2
import Derived.Deep.RegionLaw
import Derived.Deep.AppendLies
import Derived.Deep.RegionHeld2
import Derived.Test.YtmomigckcngegaaGreatDoorKA9
set_option linter.unusedSimpArgs false
set_option linter.unusedVariables false
set_option maxRecDepth 4000
open Go Sx Go.Proofs
namespace Kx
def hbs (l:List Int):D:=.tab 2 l.length fun i=>[u64 (l.getD i 0),.any]
theorem bclose_ct (a h:Int):Ct Tryz.prog 65 [.agg [u64 a,.any],u64 h] fun r outs=>r=i64 (cmpI a h)∧outs = []:=by
 refine .det (De Tryz.func65 [] [] ?_)
 repeat' first|(refine S0 ?_;conv=>whnf)|exact T0|(refine Met.by (compareU_ct _ _) ?_;rintro q outs ⟨rfl,rfl⟩)|(refine T2 ?_ ?_)|(refine K0 ?_)
theorem Wr.eqs {k:IntKind} {z n:Int} {K:Int→Prop} (h:k.wrap z=n) (q:Step (K n)):Wr k z K:=.raw (h ▸ q)
theorem cmpI_lt {a b:Int}:cmpI a b<0 ↔ a<b:=by
 unfold cmpI
 split
 ·simp;omega
 ·split<;>simp<;>omega
theorem cmpI_z {a b:Int}:cmpI a b=0 ↔ a=b:=by
 unfold cmpI
 split
 ·simp;omega
 ·split<;>simp<;>omega
theorem search_ct (l:List Int) (q:Int) (hl:l.length≤1000) (hs:∀ i j,i<j→j<l.length→l.getD i 0<l.getD j 0):Ct Tryz.prog 64 [hbs l,u64 q,.fn 65 []] fun r outs=>∃ (i:Nat) (b:Bool),(i≤l.length∧(∀ j,j<i→l.getD j 0<q)∧(∀ j,i≤j→j<l.length→q≤l.getD j 0)∧(b=true ↔ i<l.length∧l.getD i 0=q))∧r = .tup [i64 i,.bool b]∧outs = []:=by
 refine .some2 (De Tryz.func64 [] [] ?_)
 repeat' first|(refine S0 ?_;conv=>whnf)
 refine CodeOK.loopW hΓ hm [] [] (by kernel_rfl) (α:=Nat × Nat) (fun z=>[(0,hbs l),(1,u64 q),(2,.fn 65 []),(6,i64 0),(7,.lit false),(8,i64 l.length),(9,i64 z.1),(10,i64 z.2)]) (fun z=>[]) 0 (fun z=>z.1≤z.2∧z.2≤l.length∧(∀ j,j<z.1→l.getD j 0<q)∧(∀ j,z.2≤j→j<l.length→q≤l.getD j 0)) (fun z=>z.2 - z.1) ?_ ?_
 ·refine Again.by (0,l.length) ⟨Nat.zero_le _,Nat.le_refl _,nofun,fun j h1 h2=>by omega⟩ ?_
  repeat' first|(refine S0 ?_;conv=>whnf)|(refine Vo ?_)|exact T0|(refine Cho.r ?_)
 ·intro ⟨i,j⟩ ⟨h1,h2,h3,h4⟩
  dsimp only at h1 h2 h3 h4 ⊢
  have hmid:IntKind.i64.wrap (((i:Int)+j).fdiv (2 ^ min (Int.toNat 1) IntKind.u64.bits))=(((i+j) / 2:Nat):Int):=by
   rw [show (2 ^ min (Int.toNat 1) IntKind.u64.bits:Int)=2 from rfl,Int.fdiv_eq_ediv_of_nonneg _ (by decide),wi _ (by omega)]
   omega
  repeat' first|(refine S0 ?_;conv=>whnf)|(refine Vo ?_)|(refine W6 ?_)|(refine Met.by (bclose_ct _ _) ?_;rintro q outs ⟨rfl,rfl⟩)|(refine Wr.u64 ?_ ?_;omega)|(refine Wr.eqs hmid ?_)|(refine Br.d (fun h=>?_) fun h=>?_)|(refine K0 ?_)
  all_goals try simp only [Int.toNat_natCast] at *
  ·refine Again.by ((i+j) / 2+1,j) ⟨⟨by omega,h2,fun y hy=>?_,h4⟩,by dsimp only;omega⟩ ?_
   ·have hc:=cmpI_lt.1 h
    rcases Nat.eq_or_lt_of_le (show y≤(i+j) / 2 by dsimp only at hy;omega) with e | e
    ·rw [e];exact hc
    ·have:=hs y ((i+j) / 2) e (by omega);omega
   repeat' first|(refine S0 ?_;conv=>whnf)|(refine Vo ?_)|exact T0|(refine Cho.r ?_)
  ·refine Again.by (i,(i+j) / 2) ⟨⟨by dsimp only;omega,by dsimp only;omega,h3,fun y hy hy2=>?_⟩,by dsimp only;omega⟩ ?_
   ·have hc:¬ l.getD ((i+j) / 2) 0<q:=fun k=>h (cmpI_lt.2 k)
    rcases Nat.eq_or_lt_of_le (show (i+j) / 2≤y from hy) with e | e
    ·rw [←e];omega
    ·have:=hs ((i+j) / 2) y e hy2;omega
   repeat' first|(refine S0 ?_;conv=>whnf)|(refine Vo ?_)|exact T0|(refine Cho.r ?_)
  ·refine Lf2.by i (decide (cmpI (l.getD i 0) q=0)) ⟨by omega,h3,fun y h5 h6=>h4 y (by omega) h6,by simp [cmpI_z];omega⟩ ?_
   repeat' first|(refine S0 ?_;conv=>whnf)|exact T0|(refine T2 ?_ ?_)
  ·refine Lf2.by i false ⟨by omega,h3,fun y h5 h6=>h4 y (by omega) h6,by simp;omega⟩ ?_
   repeat' first|(refine S0 ?_;conv=>whnf)|exact T0|(refine T2 ?_ ?_)
end Kx
open Go Sx Go.Proofs
namespace Kx
abbrev Bv:=Int × Value
def nlV:Value:=.slice none 0 0
def bvF (x:Bv):List D:=[u64 x.1,.val x.2]
def bvO (l:List Bv):D:=.ftab 135 2 l.length fun i=>bvF (l.getD i (0,nlV))
theorem ovlb_ext:ExtOvl Tryz.prog 111 :=
 ⟨Tryz.f111,95,4,135,_,Tryz.func111,by kernel_rfl,by kernel_rfl,by kernel_rfl,by kernel_rfl,slice_of hΓ rfl,(elem_of hΓ (e:=135) (sz:=2) (by kernel_rfl)).choose_spec.choose_spec.1⟩
theorem iteL_bv (c:Prop) [Decidable c] (a b:Bv):iteL c (bvF a) (bvF b)=bvF (if c then a else b):=by
 rw [iteL_same rfl];split<;>rfl
theorem iteL_z1 (c:Prop) [Decidable c] (a:Bv):iteL c (bvF a) [D.int IntKind.u64 0,D.nil]=bvF (if c then a else (0,nlV)):=by
 show [D.int .u64 (if c then a.1 else 0),D.val (if c then a.2 else .slice none 0 0)]=_
 split<;>rfl
theorem iteL_z2 (c:Prop) [Decidable c] (a:Bv):iteL c [D.int IntKind.u64 0,D.nil] (bvF a)=bvF (if c then (0,nlV) else a):=by
 show [D.int .u64 (if c then 0 else a.1),D.val (if c then .slice none 0 0 else a.2)]=_
 split<;>rfl
theorem bins_get {α:Type} (l:List α) (x z:α) (i q:Nat) (hi:i≤l.length):(l.take i ++ x :: l.drop i).getD q z=if q<i then l.getD q z else if q=i then x else l.getD (q - 1) z:=by
 simp only [List.getD_eq_getElem?_getD,List.getElem?_append,List.length_take,List.getElem?_take,Nat.min_eq_left hi]
 split
 ·rfl
 ·rcases Nat.eq_or_lt_of_le (show i≤q by omega) with h | h
  ·subst h;simp
  ·rw [if_neg (by omega),show q - i=(q - i - 1)+1 by omega,List.getElem?_cons_succ,List.getElem?_drop,show i+(q - i - 1)=q - 1 by omega]
theorem binsert_ct (l:List Bv) (i:Nat) (x:Bv) (hi:i≤l.length) (hl:l.length≤1000000):Ct Tryz.prog 67 [bvO l,i64 i,.ftab 135 2 1 fun i=>selC [bvF x] i] fun r outs=>r=bvO (l.take i ++ x :: l.drop i)∧outs = []:=by
 have hov:=ovlb_ext
 refine .det (.of_Wo (fn:=Tryz.f67) hΓ hm Tryz.func67 ord67 [] (by kernel_rfl) (Step.out ?_))
 repeat' first|(refine S0 ?_;conv=>whnf)|(refine Vo ?_)|(refine Vb ?_)|exact T0|(refine W6 ?_)|(refine B1 ?_)|(refine B0 ?_)|(refine Br.d (fun h=>?_) fun h=>?_)|(refine T2 ?_ ?_)|(refine Cp.mk fun q hq=>Step.out ?_)|(refine Ovl.mk (by assumption) (Step.out ?_))
 all_goals try omega
 all_goals refine ⟨?_,fun q hq=>?_⟩
 all_goals try (simp;omega)
 all_goals dsimp only
 all_goals
  rw [bins_get l x (0,nlV) i q hi]
  try simp only [selC,iteL_z1,iteL_z2,iteL_bv]
  simp only [List.length_append,List.length_cons,List.length_take,List.length_drop] at hq
  congr 1
  repeat' split
  all_goals first
   | rfl
   | omega
   | (congr 1;omega)
end Kx
open Go Sx Go.Proofs
namespace Kx
open Go.RowKit
structure BkI (w0:World) (L:List Bk) (l:List Bv) (v:Value) (w:World):Prop where
 B:Below w0.heap.size w0 w
 n:l.length=L.length
 o:Od (MiS (fun _=>False) w.heap) (bvO l) v v.ownBlock.toList
 ob:∀ b,v.ownBlock=some b→w0.heap.size≤b
 h:∀ i,i<L.length→(l.getD i (0,nlV)).1=(L.getD i (0,[])).1
 i:∀ i,i<L.length→OwnsH w.heap 3 1 (l.getD i (0,nlV)).2 (L.getD i (0,[])).2.length ((L.getD i (0,[])).2.map fun x=>.int .i64 x)
 ib:∀ i,i<L.length→∀ b,(l.getD i (0,nlV)).2.ownBlock=some b→w0.heap.size≤b∧v.ownBlock≠some b
 ne:∀ i j,i<L.length→j<L.length→i≠j→∀ b,(l.getD i (0,nlV)).2.ownBlock=some b→(l.getD j (0,nlV)).2.ownBlock≠some b
theorem own_lt {h:Array Obj} {e sz n:Nat} {v:Value} {xs:List Value} (H:OwnsH h e sz v n xs) {b:Nat} (hb:v.ownBlock=some b):b<h.size:=by
 obtain ⟨_,⟨rfl,_⟩ | ⟨g,cap,cur,rfl,hg,_⟩⟩:=H
 ·simp [Value.ownBlock] at hb
 ·simp only [Value.ownBlock,Option.some.injEq] at hb
  subst hb
  exact (Array.getElem?_eq_some_iff.1 hg).1
theorem own_kept {h h' : Array Obj} {e sz n:Nat} {v:Value} {xs:List Value} (H:OwnsH h e sz v n xs) (hk:∀ b,v.ownBlock=some b→h'[b]? = h[b]?):OwnsH h' e sz v n xs:=by
 obtain ⟨h1,⟨rfl,h2⟩ | ⟨g,cap,cur,rfl,hg,h3⟩⟩:=H
 ·exact ⟨h1,.inl ⟨rfl,h2⟩⟩
 ·exact ⟨h1,.inr ⟨g,cap,cur,rfl,(hk g rfl).trans hg,h3⟩⟩
theorem bvO_own {S:Nat→Prop} {h:Array Obj} {l:List Bv} {v:Value} {F:List Nat} (H:Od (MiS S h) (bvO l) v F):∃ xs,OwnsH h 135 2 v l.length xs∧(∀ i,i<l.length→(xs.drop (i*2)).take 2 = [.int .u64 (l.getD i (0,nlV)).1,(l.getD i (0,nlV)).2])∧(∀ u ∈ xs,u.oneCell' = true)∧F=v.ownBlock.toList:=by
 simp only [bvO,Od] at H
 obtain ⟨⟨xs,h1,h2,h3⟩,rfl⟩:=H
 refine ⟨xs,h1,fun i hi=>?_,h3,rfl⟩
 have:=h2 i hi
 match hm:(xs.drop (i*2)).take 2,this with
 | [x,y],h =>
   simp only [bvF,RdL,Rd] at h
   rw [h.2.1,h.2.2.2.1]
 | [],h=>simp [bvF,RdL] at h
 | [_],h=>simp [bvF,RdL] at h
 | _ :: _ :: _ :: _,h=>simp [bvF,RdL] at h
theorem bvO_of {S:Nat→Prop} {h:Array Obj} {l:List Bv} {v:Value} {xs:List Value} (h1:OwnsH h 135 2 v l.length xs) (h2:∀ i,i<l.length→(xs.drop (i*2)).take 2 = [.int .u64 (l.getD i (0,nlV)).1,(l.getD i (0,nlV)).2]) (h3:∀ u ∈ xs,u.oneCell' = true):Od (MiS S h) (bvO l) v v.ownBlock.toList:=by
 simp only [bvO,Od]
 refine ⟨⟨xs,h1,fun i hi=>?_,h3⟩,trivial⟩
 rw [h2 i hi]
 have hu:(l.getD i (0,nlV)).2.oneCell' = true:=h3 _ (List.mem_of_mem_drop (i:=i*2) (List.mem_of_mem_take (i:=2) (by rw [h2 i hi];simp)))
 simp only [bvF,u64,RdL,Rd]
 refine ⟨?_,?_,hu,?_,trivial⟩<;>first | trivial | rfl
theorem BkI.below {w0 w w' : World} {L:List Bk} {l:List Bv} {v:Value} (H:BkI w0 L l v w) (hB:Below w.heap.size w w'):BkI w0 L l v w':=by
 obtain ⟨xs,o1,o2,o3,_⟩:=bvO_own H.o
 refine ⟨⟨hB.os.trans H.B.os,hB.tape.trans H.B.tape,hB.output.trans H.B.output,Nat.le_trans H.B.size hB.size,fun k hk=>(hB.block k (Nat.lt_of_lt_of_le hk H.B.size)).trans (H.B.block k hk)⟩,H.n,bvO_of (own_kept o1 fun b hb=>hB.block b (own_lt o1 hb)) o2 o3,H.ob,H.h,fun i hi=>own_kept (H.i i hi) fun b hb=>hB.block b (own_lt (H.i i hi) hb),H.ib,H.ne⟩
theorem BkI.nil (w:World):BkI w [] [] nlV w :=
 ⟨Below.refl _ _,rfl,by simp [bvO,Od,nlV,OwnsH,Value.ownBlock],nofun,nofun,nofun,nofun,nofun⟩
theorem BkI.at {w0 w:World} {L:List Bk} {l:List Bv} {v:Value} (H:BkI w0 L l v w) {a:Nat} (ha:a<L.length):∃ ob cap cur,v = .slice (some ⟨ob,0,none⟩) L.length cap∧w.heap[ob]? = some (.cells cur 135 (0,0))∧cur[a*2+1]? = some (l.getD a (0,nlV)).2∧w0.heap.size≤ob∧ob<w.heap.size:=by
 obtain ⟨xs,o1,o2,o3,_⟩:=bvO_own H.o
 have hob:=H.ob
 obtain ⟨h1,⟨rfl,h2⟩ | ⟨g,cap,cur,rfl,hg,h3,h4,h5,h6⟩⟩:=o1
 ·have:=H.n;omega
 ·have hn:=H.n
  have hx:=o2 a (by omega)
  refine ⟨g,cap,cur,by rw [hn],hg,?_,hob g rfl,(Array.getElem?_eq_some_iff.1 hg).1⟩
  have h7:((xs.drop (a*2)).take 2)[1]? = some (l.getD a (0,nlV)).2:=by rw [hx];rfl
  rw [List.getElem?_take,if_pos (by omega),List.getElem?_drop,←h6,List.getElem?_take,if_pos (by omega),Array.getElem?_toList] at h7
  exact h7
theorem BkI.app {w0 w:World} {L:List Bk} {l:List Bv} {v:Value} (H:BkI w0 L l v w) {a:Nat} (ha:a<L.length) (hs:(L.getD a (0,[])).2.length≤1000) (id:Int):∃ g cap W2,(Builtin.append_ #[22,22] 22 #[(l.getD a (0,nlV)).2,.slice (some ⟨w.heap.size,0,none⟩) 1 1]).run Tryz.prog (w.alloc (.cells #[.int .i64 id] 3)) = .ok (.slice (some ⟨g,0,none⟩) ((L.getD a (0,[])).2.length+1) cap) W2 ∧
 OwnsH W2.heap 3 1 (.slice (some ⟨g,0,none⟩) ((L.getD a (0,[])).2.length+1) cap) ((L.getD a (0,[])).2.length+1) (((L.getD a (0,[])).2 ++ [id]).map fun x=>.int .i64 x)∧W2.os=w.os∧W2.tape=w.tape∧W2.output=w.output∧w.heap.size≤W2.heap.size∧(∀ k,k<w.heap.size→(l.getD a (0,nlV)).2.ownBlock≠some k→W2.heap[k]? = w.heap[k]?)∧((l.getD a (0,nlV)).2.ownBlock=some g∨w.heap.size≤g):=by
 have hI:=H.i a ha
 generalize (l.getD a (0,nlV)).2=va at *
 generalize (L.getD a (0,[])).2=ids at *
 have hz:w.heap.size≤(w.alloc (.cells #[.int .i64 id] 3)).heap.size:=by
  show _≤(w.heap.push _).size
  simp
 have hold:∀ k,k<w.heap.size→(w.alloc (.cells #[.int .i64 id] 3)).heap[k]? = w.heap[k]?:=fun k hk=>by
  show (w.heap.push _)[k]? = _
  rw [Array.getElem?_push,if_neg (by omega)]
 have hI2:OwnsH (w.alloc (.cells #[.int .i64 id] 3)).heap 3 1 va ids.length (ids.map fun x=>.int .i64 x):=own_kept hI fun b hb=>hold b (own_lt hI hb)
 obtain ⟨ie,ze,p1,q2,q3,p2,q5,_⟩:=elem_of hΓ (e:=3) (sz:=1) (by kernel_rfl)
 have p3:ze.cells.size=ie.size:=by rw [q5,q2]
 have q8:(Γ.get 3).bytes=8:=by kernel_rfl
 have p5:ie.size=1∧ie.bytes=8:=⟨q2,by rw [q3,q8]⟩
 have p4:0<ie.bytes:=by rw [p5.2];decide
 have hr:=run_append (P:=Tryz.prog) (w:=w.alloc (.cells #[.int .i64 id] 3)) 22 22 3 ie ze (by kernel_rfl) p1 p2 p3 p4 va ids.length (ids.map fun x=>.int .i64 x) (p5.1 ▸ hI2) (some ⟨w.heap.size,0,none⟩) 1 1 nofun [.int .i64 id] (by rw [p5.1];rfl) (fun b hb j u hj=>by
  cases hb
  exact World.news_of_block (gp_new0 _ _) j u hj) (by simp [Value.oneCell']) (by rw [p5.2];omega)
 obtain ⟨v',W2,q1,q2,q3,q4,q5,q6,q7,q8⟩:=hr
 rw [p5.1] at q2
 obtain ⟨h1,⟨rfl,h2⟩ | ⟨g,cap,cur,rfl,hg,h3⟩⟩:=q2
 ·omega
 ·refine ⟨g,cap,W2,q1,⟨by simp,.inr ⟨g,cap,cur,rfl,hg,by simpa using h3⟩⟩,q3,q4,q5,Nat.le_trans hz q6,fun k hk hne=>(q7 k (Nat.lt_of_lt_of_le hk hz) hne).trans (hold k hk),?_⟩
  rcases q8 g rfl with h | h
  ·exact .inl h
  ·exact .inr (Nat.le_trans hz h)
theorem heap_setCell_at {W:World} {b o:Nat} {cur:Array Value} {t:TypeId} (h:W.heap[b]? = some (.cells cur t (0,0))) (u:Value):(W.setCell ⟨b,o,none⟩ u).heap[b]? = some (.cells (cur.setIfInBounds o u) t (0,0)):=by
 simp [World.setCell,Array.getElem?_modify,h]
theorem BkI.put {w0 w:World} {L:List Bk} {l:List Bv} {ob cap:Nat} (H:BkI w0 L l (.slice (some ⟨ob,0,none⟩) L.length cap) w) {a:Nat} (ha:a<L.length) {W2:World} {g gcap n:Nat} {ids:List Int}
 (q2:OwnsH W2.heap 3 1 (.slice (some ⟨g,0,none⟩) n gcap) n (ids.map fun x=>.int .i64 x)) (hn:ids.length=n) (q3:W2.os=w.os) (q4:W2.tape=w.tape) (q5:W2.output=w.output) (q6:w.heap.size≤W2.heap.size)
 (q7:∀ k,k<w.heap.size→(l.getD a (0,nlV)).2.ownBlock≠some k→W2.heap[k]? = w.heap[k]?) (q8:(l.getD a (0,nlV)).2.ownBlock=some g∨w.heap.size≤g) :
 BkI w0 (L.set a ((L.getD a (0,[])).1,ids)) (l.set a ((l.getD a (0,nlV)).1,.slice (some ⟨g,0,none⟩) n gcap)) (.slice (some ⟨ob,0,none⟩) L.length cap) (W2.setCell ⟨ob,a*2+1,none⟩ (.slice (some ⟨g,0,none⟩) n gcap)):=by
 obtain ⟨xs,o1,o2,o3,_⟩:=bvO_own H.o
 have hln:=H.n
 have hob:=H.ob ob rfl
 have hlt:ob<w.heap.size:=own_lt o1 rfl
 have hne:(l.getD a (0,nlV)).2.ownBlock≠some ob:=fun h=>(H.ib a ha ob h).2 rfl
 have hgo:g≠ob:=by
  rintro rfl
  rcases q8 with h | h
  ·exact hne h
  ·omega
 have hk2:∀ k,k<w.heap.size→(l.getD a (0,nlV)).2.ownBlock≠some k→k≠ob→(W2.setCell ⟨ob,a*2+1,none⟩ (.slice (some ⟨g,0,none⟩) n gcap)).heap[k]? = w.heap[k]?:=fun k hk h1 h2=>(Below.heap_setCell W2 _ _ k h2).trans (q7 k hk h1)
 have hzz:(W2.setCell ⟨ob,a*2+1,none⟩ (.slice (some ⟨g,0,none⟩) n gcap)).heap.size=W2.heap.size:=by simp [World.setCell]
 obtain ⟨p1,⟨h,_⟩ | ⟨g1,cap1,cur,h,hg,h3,h4,h5,h6⟩⟩:=o1
 ·simp at h
 simp only [Value.slice.injEq,Option.some.injEq,Addr.mk.injEq] at h
 obtain ⟨⟨rfl,_,_⟩,hLl,rfl⟩:=h
 have hcur:W2.heap[ob]? = some (.cells cur 135 (0,0)):=(q7 ob hlt hne).trans hg
 have gget:∀ {α:Type} (M:List α) (x z:α) (i:Nat),a<M.length→(M.set a x).getD i z=if i=a then x else M.getD i z:=fun M x z i hM=>by
  simp only [List.getD_eq_getElem?_getD,List.getElem?_set]
  by_cases e:a=i
  ·subst e;simp [hM]
  ·simp [e,Ne.symm e,fun h=>e (Eq.symm h)]
 have hal:a<l.length:=by omega
 refine ⟨⟨?_,?_,?_,?_,fun k hk=>?_⟩,by simp [hln],?_,H.ob,fun i hi=>?_,fun i hi=>?_,fun i hi b hb=>?_,fun i j hi hj hij b hb=>?_⟩
 ·exact q3.trans H.B.os
 ·exact q4.trans H.B.tape
 ·exact q5.trans H.B.output
 ·rw [hzz];exact Nat.le_trans H.B.size q6
 ·refine (hk2 k (Nat.lt_of_lt_of_le hk H.B.size) (fun h=>?_) (by omega)).trans (H.B.block k hk)
  have:=(H.ib a ha k h).1;omega
 ·refine bvO_of (xs:=xs.set (a*2+1) (.slice (some ⟨g,0,none⟩) n gcap)) ⟨by simpa using p1,.inr ⟨ob,cap,_,by simp [hln],heap_setCell_at hcur _,by simpa using h3,h4,by simpa using h5,?_⟩⟩ (fun i hi=>?_) fun u hu=>?_
  ·rw [List.length_set,Array.toList_setIfInBounds,List.take_set,h6]
  ·rw [List.length_set] at hi
   rw [List.drop_set,gget l _ _ i hal]
   have hx:=o2 i hi
   split
   ·rw [if_neg (by omega)];exact hx
   ·rw [List.take_set,hx]
    by_cases e:i=a
    ·subst e
     rw [if_pos rfl,show i*2+1 - i*2=1 by omega];rfl
    ·rw [if_neg e,List.set_eq_of_length_le (by simp;omega)]
  ·rcases List.mem_or_eq_of_mem_set hu with h | rfl
   ·exact o3 u h
   ·rfl
 ·rw [List.length_set] at hi
  rw [gget l _ _ i hal,gget L _ _ i ha]
  split
  ·rename_i e;subst e;exact H.h _ hi
  ·exact H.h i hi
 ·rw [List.length_set] at hi
  rw [gget l _ _ i hal,gget L _ _ i ha]
  split
  ·dsimp only
   rw [hn]
   refine own_kept q2 fun b hb=>?_
   simp only [Value.ownBlock,Option.some.injEq] at hb
   subst hb
   exact Below.heap_setCell W2 _ _ g hgo
  ·rename_i e
   refine own_kept (H.i i hi) fun b hb=>hk2 b (own_lt (H.i i hi) hb) (fun h=>?_) (fun h=>?_)
   ·exact H.ne i a hi ha e b hb h
   ·subst h;exact (H.ib i hi b hb).2 rfl
 ·rw [List.length_set] at hi
  rw [gget l _ _ i hal] at hb
  split at hb
  ·simp only [Value.ownBlock,Option.some.injEq] at hb
   subst hb
   refine ⟨?_,fun h=>?_⟩
   ·rcases q8 with h | h
    ·exact (H.ib a ha g h).1
    ·exact Nat.le_trans H.B.size h
   ·simp only [Value.ownBlock,Option.some.injEq] at h
    exact hgo h.symm
  ·exact H.ib i hi b hb
 ·rw [List.length_set] at hi hj
  rw [gget l _ _ i hal] at hb
  rw [gget l _ _ j hal]
  have key:∀ y,y<L.length→y≠a→(l.getD y (0,nlV)).2.ownBlock≠some g:=fun y hy hya h=>by
   rcases q8 with h2 | h2
   ·exact H.ne y a hy ha hya g h h2
   ·have:=own_lt (H.i y hy) h;omega
  split at hb
  ·rename_i e
   simp only [Value.ownBlock,Option.some.injEq] at hb
   subst hb
   rw [if_neg (by omega)]
   exact key j hj (by omega)
  ·rename_i e
   split
   ·intro h
    simp only [Value.ownBlock,Option.some.injEq] at h
    subst h
    exact key i hi e hb
   ·exact H.ne i j hi hj hij b hb
theorem step_run {P:Program} {w w' : World} {ops:Array Oper} {o:Oper} {a:Act} {K:Act→World→Prop} {Q:Exit→Act→World→Prop} {E:Prop} {v u r:Value} (hgd:o.guard=none) (s x:Operand) (t:TypeId)
 (ho:o.op = .call { callee:=.builtin .append,args:=#[s,x],argTypes:=#[t,t] }) (hs:a.eval s=v) (hx:a.eval x=u) (hr:(Builtin.append_ #[t,t] o.type #[v,u]).run P w = .ok r w') (h:K (a.put o.dst r) w') :
 if Region.wanted o (yielded ops a.tmps)=true then Oper.wp P o a w K Q else E:=by
 have hw:Region.wanted o (yielded ops a.tmps)=true:=by simp [Region.wanted,hgd]
 rw [if_pos hw]
 unfold Oper.wp execOp
 simp only [ho,resolve,invoke,builtin,Sem.run_bind,Sem.run_pure,Result.andThen_ok,List.map_toArray,List.map_cons,List.map_nil,hs,hx,hr]
 exact h
def b2W (w:World) (qa qb:Int) (kv:Value):World:=(w.alloc (.cells #[.int .u64 qa,.int .u64 qb] 37)).alloc (.cells #[kv] 85)
theorem b2_cells (w:World) (qa qb:Int) (kv:Value):(b2W w qa qb kv).cell? ⟨w.heap.size,0,none⟩=some (.int .u64 qa)∧(b2W w qa qb kv).cell? ⟨w.heap.size,1,none⟩=some (.int .u64 qb)∧(b2W w qa qb kv).cell? ⟨w.heap.size+1,0,none⟩=some kv∧(b2W w qa qb kv).heap.size=w.heap.size+2∧∀ b o,b<w.heap.size→(b2W w qa qb kv).cell? ⟨b,o,none⟩=w.cell? ⟨b,o,none⟩:=by
 have h1:(b2W w qa qb kv).heap[w.heap.size]? = some (.cells #[.int .u64 qa,.int .u64 qb] 37):=by
  show ((w.heap.push _).push _)[w.heap.size]? = _
  rw [Array.getElem?_push,if_neg (by simp),Array.getElem?_push,if_pos rfl]
 have h2:(b2W w qa qb kv).heap[w.heap.size+1]? = some (.cells #[kv] 85):=by
  show ((w.heap.push _).push _)[w.heap.size+1]? = _
  rw [Array.getElem?_push,if_pos (by simp)]
 refine ⟨cell_at h1 rfl,cell_at h1 rfl,cell_at h2 rfl,?_,fun b o hb=>?_⟩
 ·show ((w.heap.push _).push _).size=_
  simp
 ·have:(b2W w qa qb kv).heap[b]? = w.heap[b]?:=by
   show ((w.heap.push _).push _)[b]? = _
   rw [Array.getElem?_push,if_neg (by simp;omega),Array.getElem?_push,if_neg (by omega)]
  simp only [World.cell?]
  rw [this]
set_option maxHeartbeats 4000000 in
set_option maxRecDepth 1000000 in
theorem blocks_law (qa qb i:Int) (kv:Value) (R:List Rc) (sa:Nat→Option Addr) (sn sc:Nat→Nat) (ra:Option Addr) (rc:Nat) (w:World) (hR:R.length≤30) (G:Nat→List Bk→Prop) (g0:G 0 [])
 (re:∀ j,j<R.length→∃ b o,ra=some ⟨b,o,none⟩∧b<w.heap.size∧w.cell? ⟨b,o+j*3,none⟩=some (.int .i64 (R.getD j Rc.z).id)∧w.cell? ⟨b,o+j*3+1,none⟩=some (.int .i64 (R.getD j Rc.z).ver)∧w.cell? ⟨b,o+j*3+2,none⟩=some (.slice (sa j) (sn j) (sc j)))
 (gs:∀ k L,G k L→k<R.length→G (k+1) L) (gl:∀ k L a,G k L→(L.getD a (0,[])).2.length≤1000)
 (gi:∀ k L a h,G k L→k<R.length→0≤h∧h≤18446744073709551615→a≤L.length→(∀ j,j<a→(L.getD j (0,[])).1<h)→(∀ j,a≤j→j<L.length→h<(L.getD j (0,[])).1)→G (k+1) ((L.take a ++ (h,[]) :: L.drop a).set a (h,[(R.getD k Rc.z).id])))
 (gp:∀ k L a,G k L→k<R.length→a<L.length→G (k+1) (L.set a ((L.getD a (0,[])).1,(L.getD a (0,[])).2 ++ [(R.getD k Rc.z).id])))
 (cs:∀ k L l v w' h,G k L→BkI (b2W w qa qb kv) L l v w'→Calls Tryz.prog 64 #[v,.int .u64 h,.func (.func 65) #[] #[]] w' fun e w2=>∃ (a:Nat) (b:Bool),(a≤L.length∧(∀ j,j<a→(L.getD j (0,[])).1<h)∧(∀ j,a≤j→j<L.length→h≤(L.getD j (0,[])).1)∧(b=true ↔ a<L.length∧(L.getD a (0,[])).1=h)∧(b=false→∀ j,a≤j→j<L.length→h<(L.getD j (0,[])).1))∧e = .returned (.tuple #[.int .i64 a,.bool b])∧Below w'.heap.size w' w2)
 (gn:∀ k L,G k L→L.length≤1000)
 (ci:∀ L l v w' h a,a≤L.length→L.length≤1000→BkI (b2W w qa qb kv) L l v w'→Calls Tryz.prog 67 #[v,.int .i64 (a:Nat),.slice (some ⟨w'.heap.size,0,none⟩) 1 1] (w'.alloc (.cells #[.int .u64 h,.slice none 0 0] 135)) fun e w2=>∃ l2 v2,e = .returned v2∧BkI (b2W w qa qb kv) (L.take a ++ (h,[]) :: L.drop a) l2 v2 w2∧w'.heap.size≤w2.heap.size∧∀ c,c<w'.heap.size→v.ownBlock≠some c→w2.heap[c]? = w'.heap[c]?)
 (ch:∀ j,j<R.length→∀ w',Below (b2W w qa qb kv).heap.size (b2W w qa qb kv) w'→Calls Tryz.prog 63 #[.agg #[.int .u64 qa,.int .u64 qb],.agg #[kv],.int .i64 i,.agg #[.int .i64 (R.getD j Rc.z).id,.int .i64 (R.getD j Rc.z).ver,.slice (sa j) (sn j) (sc j)]] w' fun e w2=>∃ (h:Int) (ok:Bool),(0≤h∧h≤18446744073709551615)∧e = .returned (.tuple #[.int .u64 h,.bool ok])∧Below w'.heap.size w' w2) :
 Calls Tryz.prog 34 #[.agg #[.int .u64 qa,.int .u64 qb],.agg #[kv],.int .i64 i,.slice ra R.length rc] w fun e w'=>∃ L l v,e = .returned v∧G R.length L∧BkI (b2W w qa qb kv) L l v w':=by
 have mixed:=hm
 obtain ⟨hq1,hq2,hq3,hq4,hq5⟩:=b2_cells w qa qb kv
 go_enter Tryz.func34,Tryz.ntmps34
 go_wp2
 go_loopw [9,18] (fun v i wr=>∃ (k:Nat) (L:List Bk) (l:List Bv),k≤R.length∧i = .int .i64 k∧G k L∧BkI (b2W w qa qb kv) L l v wr)
  (fun _ i _=>R.length - (Go.RowKit.intOf i).toNat)
 case atStart=>exact ⟨0,[],[],Nat.zero_le _,rfl,g0,BkI.nil _⟩
 case round =>
  obtain ⟨k,L,l,hk,rfl,hG,hI⟩:=hrel
  by_cases hkl:k<R.length
  ·obtain ⟨b,o,rfl,hb,r1,r2,r3⟩:=re k hkl
   rw [←hq5 b _ hb] at r1 r2 r3
   have r1:=(hI.B.cell (by dsimp only;omega)).trans r1
   have r2:=(hI.B.cell (by dsimp only;omega)).trans r2
   have r3:=(hI.B.cell (by dsimp only;omega)).trans r3
   have hA:=hI.B.alloc hI.B.size (.cells #[.int .i64 (R.getD k Rc.z).id,.int .i64 (R.getD k Rc.z).ver,.slice (sa k) (sn k) (sc k)] 68)
   have q1:=(hA.cell (by dsimp only;omega)).trans hq1
   have q2:=(hA.cell (by dsimp only;omega)).trans hq2
   have q3:=(hA.cell (by dsimp only;omega)).trans hq3
   have c1:=ch k hkl _ hA
   have gi:=gi k L
   have gp:=gp k L
   have hbx:(wr.alloc (.cells #[.int .i64 (R.getD k Rc.z).id,.int .i64 (R.getD k Rc.z).ver,.slice (sa k) (sn k) (sc k)] 68)).cell? ⟨wr.heap.size,0,none⟩=some (.int .i64 (R.getD k Rc.z).id):=cell_at (gp_new0 _ _) rfl
   have hwz:wr.heap.size<(wr.alloc (.cells #[.int .i64 (R.getD k Rc.z).id,.int .i64 (R.getD k Rc.z).ver,.slice (sa k) (sn k) (sc k)] 68)).heap.size:=by
    show _<(wr.heap.push _).size
    simp
   generalize (R.getD k Rc.z).id=id at *
   generalize (R.getD k Rc.z).ver=ver at *
   generalize sa k=sa at *
   generalize sn k=sn at *
   generalize sc k=sc at *
   clear ch re hq1 hq2 hq3 hq5 hA
   go_wp2_with (first
    | (go_at_call 63;refine c1.mono ?_;rintro e w1 ⟨h,ok,hh,rfl,hB1⟩)
    | (go_at_call 64;have hI1:=BkI.below (hI.below (Below.alloc (Below.refl _ _) (Nat.le_refl _) _)) hB1;refine (cs k L l u9 w1 h hG hI1).mono ?_;rintro e w2 ⟨a,there,hs,rfl,hB2⟩)
    | (go_at_call 67;have hI2:=hI1.below hB2;refine (ci L l u9 w2 h a hs.1 (gn k L hG) hI2).mono ?_;rintro e w3 ⟨l2,v2,rfl,hI3,hz3,hk3⟩)
    | go_in)
   ·have hI1:=BkI.below (hI.below (Below.alloc (Below.refl _ _) (Nat.le_refl _) _)) hB1
    exact ⟨⟨k+1,L,l,by omega,by simp,gs k L hG hkl,hI1⟩,by simp [Go.RowKit.intOf];omega⟩
   ·have ha:a<(List.take a L ++ (h,[]) :: List.drop a L).length:=by simp;omega
    have hLa:(List.take a L ++ (h,[]) :: List.drop a L).getD a (0,[])=(h,[]):=by rw [bins_get L (h,[]) (0,[]) a a hs.1,if_neg (by omega),if_pos rfl]
    have hlt0:=hs.2.2.2.2 (by simpa using ‹(!there)=true›)
    have hG2:G (k+1) ((List.take a L ++ (h,[]) :: List.drop a L).set a (((List.take a L ++ (h,[]) :: List.drop a L).getD a (0,[])).1,((List.take a L ++ (h,[]) :: List.drop a L).getD a (0,[])).2 ++ [id])):=by
     rw [hLa];exact gi a h hG hkl hh hs.1 hs.2.1 hlt0
    have hgl:((List.take a L ++ (h,[]) :: List.drop a L).getD a (0,[])).2.length≤1000:=by rw [hLa];exact Nat.zero_le _
    have hid:w3.cell? ⟨wr.heap.size,0,none⟩=some (.int .i64 id):=by
     have h1:w2.cell? ⟨wr.heap.size,0,none⟩=some (.int .i64 id):=(hB2.cell (by exact Nat.lt_of_lt_of_le hwz hB1.size)).trans ((hB1.cell (by exact hwz)).trans hbx)
     have h2:=hk3 wr.heap.size (Nat.lt_of_lt_of_le hwz (Nat.le_trans hB1.size hB2.size)) (fun h=>by
      obtain ⟨xs,o1,_⟩:=bvO_own hI.o
      exact absurd (own_lt o1 h) (by omega))
     simp only [World.cell?] at h1 ⊢
     rw [h2];exact h1
    generalize hL2:List.take a L ++ (h,[]) :: List.drop a L=L2 at *
    have hI4:=hI3.below (w':=w3.drew) ⟨rfl,rfl,rfl,Nat.le_refl _,fun _ _=>rfl⟩
    obtain ⟨ob,ocap,cur,rfl,hob1,hob2,hob3,hob4⟩:=hI4.at ha
    have hoc:w3.cell? ⟨ob,a*2+1,none⟩=some (l2.getD a (0,nlV)).2:=cell_at hob1 hob2
    obtain ⟨g,gcap,W2,p1,p2,p3,p4,p5,p6,p7,p8⟩:=hI4.app ha hgl id
    have hput:=hI4.put ha p2 (by simp) p3 p4 p5 p6 p7 p8
    have hne:(l2.getD a (0,nlV)).2.ownBlock≠some ob:=fun h=>(hI4.ib a ha ob h).2 rfl
    have hob5:W2.heap[ob]? = some (.cells cur 135 (0,0)):=(p7 ob hob4 hne).trans hob1
    have hGn:=hG2
    generalize (l2.getD a (0,nlV)).2=va at *
    generalize hnn:(L2.getD a (0,[])).2.length+1=nn at *
    have p1:(Builtin.append_ #[22,22] 22 #[va,.slice (some ⟨w3.heap.size,0,none⟩) 1 1]).run Tryz.prog ((w3.alloc (.cells #[.int .i64 id] 3)).drew) = .ok (.slice (some ⟨g,0,none⟩) nn gcap) W2:=p1
    have hoc3:(w3.alloc (.cells #[.int .i64 id] 3)).cell? ⟨ob,a*2+1,none⟩=some va:=((Below.alloc (Below.refl _ _) (Nat.le_refl _) _).cell (by exact hob4)).trans hoc
    have hoc2:W2.cell? ⟨ob,a*2+1,none⟩=some va:=cell_at hob5 hob2
    have hfr2:W2.frozen? ⟨ob,a*2+1,none⟩=false:=by simp [World.frozen?,hob5]
    go_region_law (refine step_run rfl _ _ _ rfl rfl rfl p1 ?_)
    all_goals go_wp2
    all_goals exact ⟨⟨k+1,_,_,by omega,by simp,hGn,hput⟩,by simp [Go.RowKit.intOf];omega⟩
   ·have ht:there=true:=by simpa using ‹(!there)=false›
    have ha:=(hs.2.2.2.1.1 ht).1
    have hid:w2.cell? ⟨wr.heap.size,0,none⟩=some (.int .i64 id):=(hB2.cell (by exact Nat.lt_of_lt_of_le hwz hB1.size)).trans ((hB1.cell (by exact hwz)).trans hbx)
    have hI2:=hI1.below hB2
    have hI4:=hI2.below (w':=w2.drew) ⟨rfl,rfl,rfl,Nat.le_refl _,fun _ _=>rfl⟩
    obtain ⟨ob,ocap,cur,rfl,hob1,hob2,hob3,hob4⟩:=hI4.at ha
    have hoc:w2.cell? ⟨ob,a*2+1,none⟩=some (l.getD a (0,nlV)).2:=cell_at hob1 hob2
    obtain ⟨g,gcap,W2,p1,p2,p3,p4,p5,p6,p7,p8⟩:=hI4.app ha (gl k L a hG) id
    have hput:=hI4.put ha p2 (by simp) p3 p4 p5 p6 p7 p8
    have hne:(l.getD a (0,nlV)).2.ownBlock≠some ob:=fun h=>(hI4.ib a ha ob h).2 rfl
    have hob5:W2.heap[ob]? = some (.cells cur 135 (0,0)):=(p7 ob hob4 hne).trans hob1
    have hGn:=gp a hG hkl ha
    generalize (l.getD a (0,nlV)).2=va at *
    generalize hnn:(L.getD a (0,[])).2.length+1=nn at *
    have p1:(Builtin.append_ #[22,22] 22 #[va,.slice (some ⟨w2.heap.size,0,none⟩) 1 1]).run Tryz.prog ((w2.alloc (.cells #[.int .i64 id] 3)).drew) = .ok (.slice (some ⟨g,0,none⟩) nn gcap) W2:=p1
    have hoc3:(w2.alloc (.cells #[.int .i64 id] 3)).cell? ⟨ob,a*2+1,none⟩=some va:=((Below.alloc (Below.refl _ _) (Nat.le_refl _) _).cell (by exact hob4)).trans hoc
    have hoc2:W2.cell? ⟨ob,a*2+1,none⟩=some va:=cell_at hob5 hob2
    have hfr2:W2.frozen? ⟨ob,a*2+1,none⟩=false:=by simp [World.frozen?,hob5]
    go_region_law (refine step_run rfl _ _ _ rfl rfl rfl p1 ?_)
    all_goals go_wp2
    all_goals exact ⟨⟨k+1,_,_,by omega,by simp,hGn,hput⟩,by simp [Go.RowKit.intOf];omega⟩
  ·obtain rfl:k=R.length:=by omega
   go_wp2
   go_ret
   exact ⟨L,l,u9,rfl,hG,hI⟩
end Kx
open Go Sx Go.Proofs
namespace Kx
open Go.RowKit
theorem search_law {w0 w:World} {L:List Bk} {l:List Bv} {v:Value} (H:BkI w0 L l v w) (hl:Laid Tryz.prog w.heap fun _=>False) (hL:L.length≤1000) (hs:∀ i j,i<j→j<L.length→(L.getD i (0,[])).1<(L.getD j (0,[])).1) (h:Int) :
 Calls Tryz.prog 64 #[v,.int .u64 h,.func (.func 65) #[] #[]] w fun e w2=>∃ (a:Nat) (b:Bool),(a≤L.length∧(∀ j,j<a→(L.getD j (0,[])).1<h)∧(∀ j,a≤j→j<L.length→h≤(L.getD j (0,[])).1)∧(b=true ↔ a<L.length∧(L.getD a (0,[])).1=h)∧(b=false→∀ j,a≤j→j<L.length→h<(L.getD j (0,[])).1))∧e = .returned (.tuple #[.int .i64 a,.bool b])∧Below w.heap.size w w2:=by
 obtain ⟨xs,o1,o2,o3,_⟩:=bvO_own H.o
 have hg:∀ j,(L.map Prod.fst).getD j 0=(L.getD j (0,[])).1:=fun j=>by
  simp only [List.getD_eq_getElem?_getD,List.getElem?_map]
  cases L[j]?<;>rfl
 have hlen:(L.map Prod.fst).length=L.length:=List.length_map ..
 have hr:Rd (MiS (fun b=>v.ownBlock=some b) w.heap) true (hbs (L.map Prod.fst)) v:=by
  simp only [hbs,Rd]
  obtain ⟨p1,⟨rfl,h2⟩ | ⟨g,cap,cur,rfl,hgx,h3,h4,h5,h6⟩⟩:=o1
  ·have:=H.n
   exact ⟨none,0,by rw [hlen];congr 1;omega,by omega,fun i hi=>by omega⟩
  ·refine ⟨some ⟨g,0,none⟩,cap,by rw [hlen,H.n],by rw [hlen,←H.n];exact h3,fun i hi=>⟨g,0,rfl,rfl,[.int .u64 (l.getD i (0,nlV)).1,(l.getD i (0,nlV)).2],rfl,?_,?_⟩⟩
   ·intro j hj
    have hx:=o2 i (by have:=H.n;omega)
    rw [←hx,List.getElem?_take,List.getElem?_drop,←h6,List.getElem?_take]
    have hj2:j<2:=hj
    have hn:=H.n
    rw [if_pos hj2,if_pos (by omega)]
    show cellAt w.heap g (0+i*2+j)=_
    unfold cellAt
    rw [hgx]
    simp
   ·simp only [u64,RdL,Rd]
    have hu:(l.getD i (0,nlV)).2.oneCell' = true:=o3 _ (List.mem_of_mem_drop (i:=i*2) (List.mem_of_mem_take (i:=2) (by rw [o2 i (by have:=H.n;omega)];simp)))
    rw [hg,H.h i (by omega)]
    refine ⟨?_,?_,hu,trivial,trivial⟩<;>first | trivial | rfl
 have:=(search_ct (L.map Prod.fst) h (by omega) (fun i j h1 h2=>by rw [hg,hg];exact hs i j h1 (by omega))).ok w (fun b=>v.ownBlock=some b) #[v,.int .u64 h,.func (.func 65) #[] #[]] [] (fun b hb=>own_lt o1 hb)
  (OdT.of_rd _ _ (rdtC hr (rdtC (by simp [u64,Rd]) (rdtC (by simp [Rd,RdL]) rdtN)))) List.nodup_nil ⟨by simp,fun x hx g hg=>⟨(hl x hx g hg).1,by simp,(hl x hx g hg).2.2⟩⟩
 refine this.mono ?_
 rintro e w' ⟨v,r,outs,S',F',rfl,⟨a,b,⟨h1,h2,h3,h4⟩,rfl,rfl⟩,hB,hO⟩
 simp only [hg,hlen] at h1 h2 h3 h4
 simp only [OdT] at hO
 obtain ⟨F1,F2,_,hv,_⟩:=hO
 simp only [Od,OdT,i64] at hv
 obtain ⟨⟨cs⟩,rfl,hv⟩:=hv
 have hv2:cs = [.int .i64 a,.bool b]:=by
  match cs,hv with
  | [x,y],hv =>
    simp only [OdT,Od,Rd] at hv
    obtain ⟨_,_,_,⟨rfl,_⟩,_,_,_,⟨rfl,_⟩,_⟩:=hv
    rfl
  | [],hv=>simp [OdT] at hv
  | [_],hv=>simp [OdT] at hv
  | _ :: _ :: _ :: _,hv=>simp [OdT] at hv
 subst hv2
 refine ⟨a,b,⟨h1,h2,h3,h4,fun hb j hj1 hj2=>?_⟩,rfl,hB.os,hB.tape,hB.output,hB.size,fun k hk=>hB.old k hk (by simp)⟩
 have h5:=h3 j hj1 hj2
 rcases Nat.eq_or_lt_of_le hj1 with e | e
 ·subst e
  have:¬ (L.getD a (0,[])).1=h:=fun k=>by
   have:=h4.2 ⟨hj2,k⟩;rw [hb] at this;exact absurd this (by decide)
  omega
 ·have:=hs a j e hj2;have:=h3 a (Nat.le_refl _) (by omega);omega
end Kx
open Go Sx Go.Proofs
namespace Kx
open Go.RowKit
theorem insert_law {w0 w:World} {L:List Bk} {l:List Bv} {v:Value} (H:BkI w0 L l v w) (hl:Laid Tryz.prog w.heap fun _=>False) (hlw:∀ x ∈ layT,∀ g,Tryz.prog.globalNamed x.1=some g→g<w0.heap.size) (hL:L.length≤1000) (h:Int) (a:Nat) (ha:a≤L.length) :
 Calls Tryz.prog 67 #[v,.int .i64 a,.slice (some ⟨w.heap.size,0,none⟩) 1 1] (w.alloc (.cells #[.int .u64 h,.slice none 0 0] 135)) fun e w2=>∃ l2 v2,e = .returned v2∧BkI w0 (L.take a ++ (h,[]) :: L.drop a) l2 v2 w2∧w.heap.size≤w2.heap.size∧∀ c,c<w.heap.size→v.ownBlock≠some c→w2.heap[c]? = w.heap[c]?:=by
 have hA:Below w.heap.size w (w.alloc (.cells #[.int .u64 h,.slice none 0 0] 135)):=Below.alloc (Below.refl _ _) (Nat.le_refl _) _
 have hz:(w.alloc (.cells #[.int .u64 h,.slice none 0 0] 135)).heap.size=w.heap.size+1:=by
  show (w.heap.push _).size=_
  simp
 have H1:=H.below hA
 have hn:=H.n
 have hvl:∀ b,v.ownBlock=some b→b<w.heap.size:=fun b hb=>by
  obtain ⟨xs,o1,_⟩:=bvO_own H.o
  exact own_lt o1 hb
 have hlit:Od (MiS (fun _=>False) (w.alloc (.cells #[.int .u64 h,.slice none 0 0] 135)).heap) (.ftab 135 2 1 fun i=>selC [bvF (h,nlV)] i) (.slice (some ⟨w.heap.size,0,none⟩) 1 1) [w.heap.size]:=by
  simp only [Od]
  refine ⟨⟨[.int .u64 h,nlV],⟨rfl,.inr ⟨w.heap.size,1,#[.int .u64 h,nlV],rfl,gp_new0 _ _,Nat.le_refl _,by decide,rfl,rfl⟩⟩,fun i hi=>?_,by simp [nlV,Value.oneCell']⟩,rfl⟩
  obtain rfl:i=0:=by omega
  simp [selC,bvF,u64,RdL,Rd,nlV,Value.oneCell']
 have hF:∀ b,b ∈ v.ownBlock.toList ++ ([] ++ ([w.heap.size] ++ [])) ↔ v.ownBlock=some b∨b=w.heap.size:=fun b=>by simp
 have:=(binsert_ct l a (h,nlV) (by omega) (by omega)).ok (w.alloc (.cells #[.int .u64 h,.slice none 0 0] 135)) (fun _=>False) #[v,.int .i64 a,.slice (some ⟨w.heap.size,0,none⟩) 1 1] (v.ownBlock.toList ++ ([] ++ ([w.heap.size] ++ []))) (fun _ hb=>hb.elim)
  (by
    simp only [OdT]
    exact ⟨_,_,rfl,H1.o,_,_,rfl,by simp [i64,Od,Rd],_,_,rfl,hlit,rfl⟩)
  (by
    cases hv:v.ownBlock with
    | none=>simp
    | some b=>have:=hvl b hv;simp;omega)
  ⟨fun _ _ h=>h,fun x hx g hg=>by
   obtain ⟨h1,_,h3⟩:=hl x hx g hg
   refine ⟨by omega,fun hb=>?_,fun j hj=>?_⟩
   ·have:=hlw x hx g hg
    have hbs:=H.B.size
    rcases (hF g).1 hb with k | k
    ·have:=H.ob g k;omega
    ·omega
   ·rw [←h3 j hj]
    unfold cellAt
    rw [hA.block g h1]⟩
 refine this.mono ?_
 rintro e w2 ⟨v2,r,outs,S',F',rfl,⟨rfl,rfl⟩,hB,hO⟩
 simp only [OdT] at hO
 obtain ⟨F1,F2,rfl,hv,_⟩:=hO
 obtain ⟨xs,o1,o2,o3,rfl⟩:=bvO_own hv
 have hold:∀ c,c<w.heap.size→v.ownBlock≠some c→w2.heap[c]? = w.heap[c]?:=fun c hc hne=>by
  rw [hB.old c (by omega) (fun k=>by
   rcases (hF c).1 k with k | k
   ·exact hne k
   ·omega),hA.block c hc]
 have hnew:∀ b,v2.ownBlock=some b→v.ownBlock=some b∨w.heap.size≤b:=fun b hb=>by
  rcases hB.Fnew b (by simp [hb]) with k | k
  ·rcases (hF b).1 k with k | k
   ·exact .inl k
   ·exact .inr (by omega)
  ·exact .inr (by omega)
 have hbs:=H.B.size
 have gl:∀ i,(l.take a ++ (h,nlV) :: l.drop a).getD i (0,nlV)=if i<a then l.getD i (0,nlV) else if i=a then (h,nlV) else l.getD (i - 1) (0,nlV):=fun i=>bins_get l (h,nlV) (0,nlV) a i (by omega)
 have gL:∀ i,(L.take a ++ (h,[]) :: L.drop a).getD i (0,[])=if i<a then L.getD i (0,[]) else if i=a then (h,[]) else L.getD (i - 1) (0,[]):=fun i=>bins_get L (h,[]) (0,[]) a i ha
 have hlen:(L.take a ++ (h,[]) :: L.drop a).length=L.length+1:=by simp;omega
 have kept:∀ i,i<L.length→OwnsH w2.heap 3 1 (l.getD i (0,nlV)).2 (L.getD i (0,[])).2.length ((L.getD i (0,[])).2.map fun x=>.int .i64 x):=fun i hi=>own_kept (H.i i hi) fun b hb=>hold b (own_lt (H.i i hi) hb) (H.ib i hi b hb).2
 have kib:∀ i,i<L.length→∀ b,(l.getD i (0,nlV)).2.ownBlock=some b→w0.heap.size≤b∧v2.ownBlock≠some b:=fun i hi b hb=>by
  refine ⟨(H.ib i hi b hb).1,fun k=>?_⟩
  rcases hnew b k with k | k
  ·exact (H.ib i hi b hb).2 k
  ·have:=own_lt (H.i i hi) hb;omega
 refine ⟨_,v2,rfl,⟨⟨hB.os.trans (hA.os.trans H.B.os),hB.tape.trans (hA.tape.trans H.B.tape),hB.output.trans (hA.output.trans H.B.output),?_,fun k hk=>(hold k (by omega) (fun e=>by have:=H.ob k e;omega)).trans (H.B.block k hk)⟩,?_,bvO_of o1 o2 o3,fun b hb=>?_,fun i hi=>?_,fun i hi=>?_,fun i hi b hb=>?_,fun i j hi hj hij b hb=>?_⟩,?_,hold⟩
 ·have:=hB.size;omega
 ·rw [hlen];simp;omega
 ·rcases hnew b hb with k | k
  ·exact H.ob b k
  ·omega
 ·rw [hlen] at hi
  rw [gl,gL]
  (repeat' split)
  ·exact H.h i (by omega)
  ·rfl
  ·exact H.h (i - 1) (by omega)
 ·rw [hlen] at hi
  rw [gl,gL]
  (repeat' split)
  ·exact kept i (by omega)
  ·exact ⟨rfl,.inl ⟨rfl,rfl⟩⟩
  ·exact kept (i - 1) (by omega)
 ·rw [hlen] at hi
  rw [gl] at hb
  split at hb
  ·exact kib i (by omega) b hb
  ·split at hb
   ·simp [nlV,Value.ownBlock] at hb
   ·exact kib (i - 1) (by omega) b hb
 ·rw [hlen] at hi hj
  rw [gl] at hb
  rw [gl]
  split at hb
  ·(repeat' split)
   ·exact H.ne i j (by omega) (by omega) hij b hb
   ·simp [nlV,Value.ownBlock]
   ·exact H.ne i (j - 1) (by omega) (by omega) (by omega) b hb
  ·split at hb
   ·simp [nlV,Value.ownBlock] at hb
   ·(repeat' split)
    ·exact H.ne (i - 1) j (by omega) (by omega) (by omega) b hb
    ·simp [nlV,Value.ownBlock]
    ·exact H.ne (i - 1) (j - 1) (by omega) (by omega) (by omega) b hb
 ·have:=hB.size;omega
end Kx
open Go Sx Go.Proofs
namespace Kx
theorem idsN_take (l:List Bk):∀ n,n≤l.length→idsN l n=(l.take n).flatMap Prod.snd
 | 0,_=>rfl
 | n+1,h=>by
   rw [idsN,idsN_take l n (by omega),List.take_add_one,List.flatMap_append,List.getElem?_eq_getElem (by omega),List.getD_eq_getElem?_getD,List.getElem?_eq_getElem (by omega)]
   simp
theorem idsN_flat (l:List Bk):idsN l l.length=l.flatMap Prod.snd:=by
 rw [idsN_take l _ (Nat.le_refl _),List.take_length]
structure BkG (R:List Rc) (k:Nat) (L:List Bk):Prop where
 up:∀ i j,i<j→j<L.length→(L.getD i (0,[])).1<(L.getD j (0,[])).1
 ne:∀ x ∈ L,x.2≠[]
 mem:∀ y ∈ L.flatMap Prod.snd,∃ j,j<k∧y=(R.getD j Rc.z).id
 nd:(L.flatMap Prod.snd).Nodup
 sum:(L.flatMap Prod.snd).length≤k
 asc:∀ x ∈ L,∀ j,j+1<x.2.length→x.2.getD j 0<x.2.getD (j+1) 0
theorem flat_len:∀ (L:List Bk),(∀ x ∈ L,x.2≠[])→L.length≤(L.flatMap Prod.snd).length
 | [],_=>Nat.le_refl _
 | x :: L,h=>by
   have h1:=flat_len L fun y hy=>h y (List.mem_cons_of_mem _ hy)
   have h2:=List.length_pos_iff.2 (h x (List.mem_cons_self ..))
   simp only [List.flatMap_cons,List.length_append,List.length_cons];omega
theorem BkG.n {R:List Rc} {k:Nat} {L:List Bk} (h:BkG R k L):L.length≤k:=Nat.le_trans (flat_len L h.ne) h.sum
theorem BkG.nil (R:List Rc):BkG R 0 []:=⟨nofun,nofun,nofun,List.nodup_nil,Nat.le_refl _,nofun⟩
theorem BkG.skip {R:List Rc} {k:Nat} {L:List Bk} (h:BkG R k L):BkG R (k+1) L :=
 ⟨h.up,h.ne,fun y hy=>by obtain ⟨j,h1,h2⟩:=h.mem y hy;exact ⟨j,by omega,h2⟩,h.nd,by have:=h.sum;omega,h.asc⟩
theorem mem_getD {α:Type} {l:List α} {i:Nat} {z:α} (h:i<l.length):l.getD i z ∈ l:=by
 rw [List.getD_eq_getElem?_getD,List.getElem?_eq_getElem h];exact List.getElem_mem h
theorem BkG.len {R:List Rc} {k:Nat} {L:List Bk} (h:BkG R k L) (a:Nat):(L.getD a (0,[])).2.length≤k:=by
 by_cases ha:a<L.length
 ·have hx:=mem_getD (z:=((0:Int),([]:List Int))) ha
  generalize L.getD a (0,[])=x at *
  obtain ⟨s,t,rfl⟩:=List.append_of_mem hx
  have:=h.sum
  simp only [List.flatMap_append,List.flatMap_cons,List.length_append] at this
  omega
 ·rw [List.getD_eq_getElem?_getD,List.getElem?_eq_none (by omega)];exact Nat.zero_le _
theorem BkG.fresh {R:List Rc} {k:Nat} {L:List Bk} (h:BkG R k L) (hR:∀ i j,i<j→j<R.length→(R.getD i Rc.z).id<(R.getD j Rc.z).id) (hk:k<R.length):∀ y ∈ L.flatMap Prod.snd,y<(R.getD k Rc.z).id:=fun y hy=>by
 obtain ⟨j,h1,rfl⟩:=h.mem y hy
 exact hR j k h1 hk
theorem BkG.ins {R:List Rc} {k:Nat} {L:List Bk} (h:BkG R k L) (hR:∀ i j,i<j→j<R.length→(R.getD i Rc.z).id<(R.getD j Rc.z).id) (hk:k<R.length) (a:Nat) (q:Int) (ha:a≤L.length) (h1:∀ j,j<a→(L.getD j (0,[])).1<q) (h2:∀ j,a≤j→j<L.length→q<(L.getD j (0,[])).1) :
 BkG R (k+1) (L.take a ++ (q,[(R.getD k Rc.z).id]) :: L.drop a):=by
 have hf:=h.fresh hR hk
 have hup:=h.up
 have e:L=L.take a ++ L.drop a:=(List.take_append_drop a L).symm
 have hfl:L.flatMap Prod.snd=(L.take a).flatMap Prod.snd ++ (L.drop a).flatMap Prod.snd:=by
  rw [←List.flatMap_append,←e]
 have gL:∀ i,(L.take a ++ (q,[(R.getD k Rc.z).id]) :: L.drop a).getD i (0,[])=if i<a then L.getD i (0,[]) else if i=a then (q,[(R.getD k Rc.z).id]) else L.getD (i - 1) (0,[]):=fun i=>by
  simp only [List.getD_eq_getElem?_getD,List.getElem?_append,List.length_take,List.getElem?_take,Nat.min_eq_left ha]
  split
  ·rfl
  ·rcases Nat.eq_or_lt_of_le (show a≤i by omega) with h | h
   ·subst h;simp
   ·rw [if_neg (by omega),show i - a=(i - a - 1)+1 by omega,List.getElem?_cons_succ,List.getElem?_drop,show a+(i - a - 1)=i - 1 by omega]
 have hlen:(L.take a ++ (q,[(R.getD k Rc.z).id]) :: L.drop a).length=L.length+1:=by simp;omega
 have hnd:=h.nd
 have hsum:=h.sum
 have hmem:=h.mem
 rw [hfl] at hnd hsum hmem hf
 refine ⟨fun i j hij hj=>?_,fun x hx=>?_,fun y hy=>?_,?_,?_,fun x hx=>?_⟩
 ·rw [hlen] at hj
  rw [gL,gL]
  (repeat' split)<;>first | omega | ((try dsimp only);first | exact h1 _ (by omega) | exact h2 _ (by omega) (by omega) | exact hup _ _ (by omega) (by omega))
 ·rcases List.mem_append.1 hx with hx | hx
  ·exact h.ne x (List.mem_of_mem_take hx)
  ·rcases List.mem_cons.1 hx with rfl | hx
   ·simp
   ·exact h.ne x (List.mem_of_mem_drop hx)
 ·simp only [List.flatMap_append,List.flatMap_cons,List.mem_append,List.mem_singleton] at hy
  rcases hy with hy | rfl | hy
  ·obtain ⟨j,h1,h2⟩:=hmem y (List.mem_append_left _ hy);exact ⟨j,by omega,h2⟩
  ·exact ⟨k,by omega,rfl⟩
  ·obtain ⟨j,h1,h2⟩:=hmem y (List.mem_append_right _ hy);exact ⟨j,by omega,h2⟩
 ·simp only [List.flatMap_append,List.flatMap_cons,List.singleton_append]
  refine (List.perm_middle.nodup_iff).2 (List.nodup_cons.2 ⟨fun hy=>?_,hnd⟩)
  exact absurd (hf _ hy) (by omega)
 ·simp only [List.flatMap_append,List.flatMap_cons,List.length_append,List.length_cons,List.length_nil] at hsum ⊢;omega
 ·rcases List.mem_append.1 hx with hx | hx
  ·exact h.asc x (List.mem_of_mem_take hx)
  ·rcases List.mem_cons.1 hx with rfl | hx
   ·intro j hj;simp at hj
   ·exact h.asc x (List.mem_of_mem_drop hx)
theorem BkG.add {R:List Rc} {k:Nat} {L:List Bk} (h:BkG R k L) (hR:∀ i j,i<j→j<R.length→(R.getD i Rc.z).id<(R.getD j Rc.z).id) (hk:k<R.length) (a:Nat) (ha:a<L.length) :
 BkG R (k+1) (L.set a ((L.getD a (0,[])).1,(L.getD a (0,[])).2 ++ [(R.getD k Rc.z).id])):=by
 have hf:=h.fresh hR hk
 have hx:=mem_getD (z:=((0:Int),([]:List Int))) ha
 have gget:∀ (x:Bk) (i:Nat),(L.set a x).getD i (0,[])=if i=a then x else L.getD i (0,[]):=fun x i=>by
  simp only [List.getD_eq_getElem?_getD,List.getElem?_set]
  by_cases e:a=i
  ·subst e;simp [ha]
  ·rw [if_neg e,if_neg fun h=>e h.symm]
 have es:∀ x,L.set a x=L.take a ++ x :: L.drop (a+1):=fun x=>List.set_eq_take_append_cons_drop.trans (if_pos ha)
 have eL:L=L.take a ++ L.getD a (0,[]) :: L.drop (a+1):=by
  rw [←es,List.getD_eq_getElem?_getD,List.getElem?_eq_getElem ha];simp
 have hup:=h.up
 have hxa:=h.asc _ hx
 have hfl:L.flatMap Prod.snd=(L.take a).flatMap Prod.snd ++ ((L.getD a (0,[])).2 ++ (L.drop (a+1)).flatMap Prod.snd):=by
  conv=>lhs;rw [eL]
  rw [List.flatMap_append,List.flatMap_cons]
 have hnd:=h.nd
 have hsum:=h.sum
 have hmem:=h.mem
 have hne:=h.ne
 have hasc:=h.asc
 rw [hfl] at hnd hsum hmem hf
 refine ⟨fun i j hij hj=>?_,?_,?_,?_,?_,?_⟩
 ·rw [List.length_set] at hj
  rw [gget,gget]
  (repeat' split)<;>first | omega | ((try dsimp only);subst_vars;exact hup _ _ hij hj) | ((try dsimp only);exact hup _ _ hij hj)
 all_goals rw [es]
 ·intro x hx
  rcases List.mem_append.1 hx with hx | hx
  ·exact hne x (List.mem_of_mem_take hx)
  ·rcases List.mem_cons.1 hx with rfl | hx
   ·simp
   ·exact hne x (List.mem_of_mem_drop hx)
 ·intro y hy
  simp only [List.flatMap_append,List.flatMap_cons,List.mem_append,List.mem_singleton] at hy hmem
  rcases hy with hy | (hy | rfl) | hy
  ·obtain ⟨j,h1,h2⟩:=hmem y (.inl hy);exact ⟨j,by omega,h2⟩
  ·obtain ⟨j,h1,h2⟩:=hmem y (.inr (.inl hy));exact ⟨j,by omega,h2⟩
  ·exact ⟨k,by omega,rfl⟩
  ·obtain ⟨j,h1,h2⟩:=hmem y (.inr (.inr hy));exact ⟨j,by omega,h2⟩
 ·simp only [List.flatMap_append,List.flatMap_cons]
  rw [List.append_assoc,←List.append_assoc,List.singleton_append]
  refine (List.perm_middle.nodup_iff).2 (List.nodup_cons.2 ⟨fun hy=>?_,by rw [List.append_assoc];exact hnd⟩)
  rw [List.append_assoc] at hy
  exact absurd (hf _ hy) (by omega)
 ·simp only [List.flatMap_append,List.flatMap_cons,List.length_append,List.length_cons,List.length_nil] at hsum ⊢;omega
 ·intro x hx
  rcases List.mem_append.1 hx with hx | hx
  ·exact hasc x (List.mem_of_mem_take hx)
  ·rcases List.mem_cons.1 hx with rfl | hx
   ·intro j hj
    have hfx:∀ y ∈ (L.getD a (0,[])).2,y<(R.getD k Rc.z).id:=fun y hy=>hf y (List.mem_append_right _ (List.mem_append_left _ hy))
    dsimp only at hj ⊢
    generalize (L.getD a (0,[])).2=xa at hj hxa hfx ⊢
    generalize (R.getD k Rc.z).id=id at hfx ⊢
    simp only [List.length_append,List.length_cons,List.length_nil] at hj
    have e1:(xa ++ [id]).getD j 0=xa.getD j 0:=by
     rw [List.getD_eq_getElem?_getD,List.getElem?_append_left (by omega),←List.getD_eq_getElem?_getD]
    rw [e1]
    by_cases e:j+1<xa.length
    ·have e2:(xa ++ [id]).getD (j+1) 0=xa.getD (j+1) 0:=by
      rw [List.getD_eq_getElem?_getD,List.getElem?_append_left e,←List.getD_eq_getElem?_getD]
     rw [e2];exact hxa j e
    ·have e2:(xa ++ [id]).getD (j+1) 0=id:=by
      rw [List.getD_eq_getElem?_getD,List.getElem?_append_right (by omega),show j+1 - xa.length=0 by omega];rfl
     rw [e2];exact hfx _ (mem_getD (by omega))
   ·exact hasc x (List.mem_of_mem_drop hx)
theorem BkG.ok {R:List Rc} {k:Nat} {L:List Bk} (h:BkG R k L) (hk:k≤64) (hR:∀ j,j<k→1≤(R.getD j Rc.z).id∧(R.getD j Rc.z).id≤90):BkOk L:=by
 have hn:=h.n
 have hs:=h.sum
 refine ⟨by omega,fun i hi=>h.up i (i+1) (by omega) hi,fun i hi=>h.ne _ (mem_getD hi),by rw [idsN_flat];omega,by rw [idsN_flat];exact h.nd,fun i hi j hj=>?_,fun i hi=>h.asc _ (mem_getD hi)⟩
 have hm:(L.getD i (0,[])).2.getD j 0 ∈ L.flatMap Prod.snd:=List.mem_flatMap.2 ⟨_,mem_getD hi,mem_getD hj⟩
 obtain ⟨y,hy,e⟩:=h.mem _ hm
 rw [e]
 have:=hR y hy
 omega
end Kx
open Go Sx Go.Proofs
namespace Kx
open Go.RowKit
theorem key_val {M:Mi} {a b:Int} {v:Value} {F:List Nat} (h:Od M (.agg [u64 a,u64 b]) v F):v = .agg #[.int .u64 a,.int .u64 b]∧F = []:=by
 simp only [Od] at h
 obtain ⟨⟨cs⟩,rfl,h⟩:=h
 obtain ⟨v1,l1,F1,F2,e1,rfl,o1,h⟩:=odl_cons h
 obtain ⟨v2,l2,F3,F4,e2,rfl,o2,h⟩:=odl_cons h
 obtain ⟨e3,rfl⟩:=odl_nil h
 simp only [u64,Od,Rd] at o1 o2
 obtain ⟨rfl,rfl⟩:=o1
 obtain ⟨rfl,rfl⟩:=o2
 subst e3 e2
 simp only at e1
 subst e1
 exact ⟨rfl,rfl⟩
theorem bk_val {M:Mi} {k:List Cp} {v:Value} {F:List Nat} (h:Od M (.agg [cps k]) v F):∃ x,v = .agg #[x]∧Rd M true (cps k) x∧F = []:=by
 simp only [Od] at h
 obtain ⟨⟨cs⟩,rfl,h⟩:=h
 obtain ⟨v1,l1,F1,F2,e1,rfl,o1,h⟩:=odl_cons h
 obtain ⟨e3,rfl⟩:=odl_nil h
 simp only [cps,Od] at o1
 obtain ⟨o1,rfl⟩:=o1
 subst e3
 simp only at e1
 subst e1
 exact ⟨v1,rfl,o1,rfl⟩
theorem tab_one {M:Mi} {im:Bool} {sz n:Nat} {f:Nat→List D} {v:Value} (h:Rd M im (.tab sz n f) v):v.oneCell' = true:=by
 simp only [Rd] at h
 obtain ⟨a,cap,rfl,_⟩:=h
 rfl
theorem rcs_val {M:Mi} {R:List Rc} {v:Value} (h:Rd M true (rcs R) v) (hS:∀ b,M.S b→b<M.h.size):∃ a cap,v = .slice a R.length cap∧∀ j,∃ p:Option Addr × Nat × Nat,j<R.length→(∃ b o,a=some ⟨b,o,none⟩∧b<M.h.size∧cellAt M.h b (o+j*3)=some (.int .i64 (R.getD j Rc.z).id)∧cellAt M.h b (o+j*3+1)=some (.int .i64 (R.getD j Rc.z).ver)∧cellAt M.h b (o+j*3+2)=some (.slice p.1 p.2.1 p.2.2))∧Rd M true (strs (R.getD j Rc.z).v) (.slice p.1 p.2.1 p.2.2):=by
 simp only [rcs,Rd] at h
 obtain ⟨a,cap,rfl,hn,hel⟩:=h
 refine ⟨a,cap,rfl,fun j=>?_⟩
 by_cases hj:j<R.length
 ·obtain ⟨b,o,ha,hb,vs,hl,hc,hr⟩:=hel j hj
  match vs,hl,hr,hc with
  | [x,y,z],_,hr,hc =>
    simp only [Rc.l,RdL,i64] at hr
    obtain ⟨_,rx,_,ry,_,rz,_⟩:=hr
    have hz:=rz
    simp only [strs,Rd] at rx ry rz
    obtain ⟨a2,cap2,rfl,_⟩:=rz
    have c0:=hc 0 (by simp)
    have c1:=hc 1 (by simp)
    have c2:=hc 2 (by simp)
    rw [rx] at c0
    rw [ry] at c1
    exact ⟨(a2,_,cap2),fun _=>⟨⟨b,o,ha,hS b hb,c0,c1,c2⟩,hz⟩⟩
 ·exact ⟨(none,0,0),fun h=>absurd h hj⟩
theorem ids_rd {M:Mi} {v:Value} {l:List Int} (h:OwnsH M.h 3 1 v l.length (l.map fun x=>.int .i64 x)) (hS:∀ b,v.ownBlock=some b→M.S b):Rd M true (ints l) v:=by
 simp only [ints,Rd]
 obtain ⟨h1,⟨rfl,h2⟩ | ⟨g,cap,cur,rfl,hg,h3,h4,h5,h6⟩⟩:=h
 ·exact ⟨none,0,by rw [h2],by omega,fun i hi=>by omega⟩
 ·refine ⟨_,cap,rfl,h3,fun i hi=>⟨g,0,rfl,hS g rfl,[.int .i64 (l.getD i 0)],rfl,fun j hj=>?_,by simp [i64,RdL,Rd,Value.oneCell']⟩⟩
  obtain rfl:j=0:=by simpa using hj
  unfold cellAt
  rw [hg]
  have:(cur.toList.take (l.length*1))[i]? = some (.int .i64 (l.getD i 0)):=by
   rw [h6,List.getElem?_map,List.getElem?_eq_getElem hi,List.getD_eq_getElem?_getD,List.getElem?_eq_getElem hi];rfl
  rw [List.getElem?_take,if_pos (by omega)] at this
  simpa using this
theorem bks_rd {w0 w:World} {L:List Bk} {l:List Bv} {v:Value} (H:BkI w0 L l v w) (S:Nat→Prop) (hS:∀ b,w0.heap.size≤b→b<w.heap.size→S b):Rd (MiS S w.heap) true (bks L) v:=by
 obtain ⟨xs,o1,o2,o3,_⟩:=bvO_own H.o
 have hn:=H.n
 have hob:=H.ob
 have hlt:∀ b,v.ownBlock=some b→b<w.heap.size:=fun b hb=>own_lt o1 hb
 simp only [bks,Rd]
 obtain ⟨p1,⟨rfl,h2⟩ | ⟨g,cap,cur,rfl,hgx,h3,h4,h5,h6⟩⟩:=o1
 ·exact ⟨none,0,by rw [show L.length=0 by omega],by omega,fun i hi=>by omega⟩
 ·refine ⟨some ⟨g,0,none⟩,cap,by rw [hn],by omega,fun i hi=>⟨g,0,rfl,hS g (hob g rfl) (hlt g rfl),[.int .u64 (l.getD i (0,nlV)).1,(l.getD i (0,nlV)).2],rfl,?_,?_⟩⟩
  ·intro j hj
   have hx:=o2 i (by omega)
   rw [←hx,List.getElem?_take,List.getElem?_drop,←h6,List.getElem?_take]
   have hj2:j<2:=hj
   rw [if_pos hj2,if_pos (by omega)]
   show cellAt w.heap g (0+i*2+j)=_
   unfold cellAt
   rw [hgx]
   simp
  ·have hr:=ids_rd (M:=MiS S w.heap) (H.i i hi) fun b hb=>hS b (H.ib i hi b hb).1 (own_lt (H.i i hi) hb)
   simp only [bkF,u64,RdL]
   refine ⟨rfl,?_,tab_one hr,hr,trivial⟩
   simp only [Rd]
   rw [H.h i hi]
theorem asc_all {R:List Rc} (h:∀ i,i+1<R.length→(R.getD i Rc.z).id<(R.getD (i+1) Rc.z).id):∀ i j,i<j→j<R.length→(R.getD i Rc.z).id<(R.getD j Rc.z).id
 | i,0,h1,_=>by omega
 | i,j+1,h1,h2=>by
   have:=h j h2
   rcases Nat.eq_or_lt_of_le (show i≤j by omega) with e | e
   ·rw [e];exact this
   ·have:=asc_all h i j e (by omega);omega
theorem blocks_ct (q:Int × Int) (s:Sc) (k:List Cp) (hk:KyOk s k) (i:Nat) (hi:i<10) (R:List Rc) (hR:RsOk s R) (h30:R.length≤30):Ct Tryz.prog 34 [.agg [u64 q.1,u64 q.2],.agg [cps k],i64 i,rcs R] fun r outs=>∃ L:List Bk,(BkOk L∧(L.flatMap Prod.snd).length≤R.length)∧r=bks L∧outs = []:=by
 refine ⟨⟨Tryz.f34,Tryz.func34,by decide,by decide⟩,fun w S0 vs F hS0 hod hnd hFS=>?_⟩
 obtain ⟨x,y,z,t,rfl⟩:∃ x y z t,vs = #[x,y,z,t]:=by
  match vs,hod with
  | ⟨[x,y,z,t]⟩,_=>exact ⟨x,y,z,t,rfl⟩
  | ⟨[]⟩,h=>simp [OdT] at h
  | ⟨[_]⟩,h=>simp [OdT] at h
  | ⟨[_,_]⟩,h=>simp [OdT] at h
  | ⟨[_,_,_]⟩,h=>simp [OdT] at h
  | ⟨_ :: _ :: _ :: _ :: _ :: _⟩,h=>simp [OdT] at h
 simp only [OdT] at hod
 obtain ⟨F1,F2,rfl,o1,F3,F4,rfl,o2,F5,F6,rfl,o3,F7,F8,rfl,o4,rfl⟩:=hod
 obtain ⟨rfl,rfl⟩:=key_val o1
 obtain ⟨kv,rfl,rk,rfl⟩:=bk_val o2
 simp only [i64,Od,Rd] at o3
 obtain ⟨rfl,rfl⟩:=o3
 simp only [rcs,Od] at o4
 obtain ⟨o4,rfl⟩:=o4
 have hl:Laid Tryz.prog w.heap fun _=>False:=fun x hx g hg=>⟨(hFS.2 x hx g hg).1,fun h=>h,(hFS.2 x hx g hg).2.2⟩
 have hSl:∀ b,(MiS S0 w.heap).S b→b<(MiS S0 w.heap).h.size:=hS0
 obtain ⟨ra,rc,rfl,hp⟩:=rcs_val (R:=R) o4 hSl
 obtain ⟨hq1,hq2,hq3,hq4,hq5⟩:=b2_cells w q.1 q.2 kv
 have hB0:Below w.heap.size w (b2W w q.1 q.2 kv):=((Below.refl w.heap.size w).alloc (Nat.le_refl _) _).alloc (by
  show _≤(w.heap.push _).size
  simp) _
 have hBw:∀ w',Below (b2W w q.1 q.2 kv).heap.size (b2W w q.1 q.2 kv) w'→Below w.heap.size w w':=fun w' h=>⟨h.os.trans hB0.os,h.tape.trans hB0.tape,h.output.trans hB0.output,Nat.le_trans hB0.size h.size,fun k hk=>(h.block k (Nat.lt_of_lt_of_le hk hB0.size)).trans (hB0.block k hk)⟩
 have hasc:=asc_all hR.asc
 have hrd:∀ {w'} (d:D) (v:Value),Below w.heap.size w w'→Rd (MiS S0 w.heap) true d v→Rd (MiS S0 w'.heap) true d v:=fun {w'} d v hB h=>Rd.mono (M:=MiS S0 w.heap) (M':=MiS S0 w'.heap) ⟨fun _ h=>h,fun b hb=>hB.block b (hS0 b hb),by simp,by simp,by simp⟩ d v h
 refine (blocks_law q.1 q.2 i kv R (fun j=>(hp j).choose.1) (fun j=>(hp j).choose.2.1) (fun j=>(hp j).choose.2.2) ra rc w h30 (fun n L=>n≤R.length∧BkG R n L) ⟨Nat.zero_le _,BkG.nil R⟩ ?_ ?_ ?_ ?_ ?_ ?_ ?_ ?_ ?_).mono ?_
 ·intro j hj
  obtain ⟨⟨b,o,e,hb,c0,c1,c2⟩,_⟩:=(hp j).choose_spec hj
  exact ⟨b,o,e,hb,c0,c1,c2⟩
 ·exact fun n L h hk=>⟨hk,h.2.skip⟩
 ·exact fun n L a h=>Nat.le_trans (h.2.len a) (by have:=h.1;omega)
 ·intro n L a h g hk _ ha h1 h2
  refine ⟨hk,?_⟩
  have e:(L.take a ++ (h,[]) :: L.drop a).set a (h,[(R.getD n Rc.z).id])=L.take a ++ (h,[(R.getD n Rc.z).id]) :: L.drop a:=by
   rw [List.set_append_right _ _ (by simp;omega)]
   simp [Nat.min_eq_left ha]
  rw [e]
  exact g.2.ins hasc hk a h ha h1 h2
 ·exact fun n L a g hk ha=>⟨hk,g.2.add hasc hk a ha⟩
 ·exact fun n L l v w' h g hI=>search_law hI (laid_below hl (hBw _ hI.B)) (by have:=g.2.n;have:=g.1;omega) g.2.up h
 ·exact fun n L h=>by have:=h.2.n;have:=h.1;omega
 ·exact fun L l v w' h a ha hL hI=>insert_law hI (laid_below hl (hBw _ hI.B)) (fun x hx g hg=>Nat.lt_of_lt_of_le (hl x hx g hg).1 hB0.size) hL h a ha
 ·intro j hj w' hB
  obtain ⟨_,hrs⟩:=(hp j).choose_spec hj
  have hw:=hBw _ hB
  have hlw:=laid_below hl hw
  have hok:=hR.ok _ (mem_getD (z:=Rc.z) hj)
  have h1:Rd (MiS S0 w'.heap) true (.agg [u64 q.1,u64 q.2]) (.agg #[.int .u64 q.1,.int .u64 q.2]):=by simp [Rd,RdL,u64,Value.oneCell']
  have h2:Rd (MiS S0 w'.heap) true (.agg [cps k]) (.agg #[kv]):=by
   have:=hrd _ _ hw rk
   simp only [Rd,RdL]
   exact ⟨#[kv],rfl,tab_one this,this,trivial⟩
  have h3:Rd (MiS S0 w'.heap) true (i64 i) (.int .i64 i):=by simp [Rd,i64]
  have h4:Rd (MiS S0 w'.heap) true (R.getD j Rc.z).d (.agg #[.int .i64 (R.getD j Rc.z).id,.int .i64 (R.getD j Rc.z).ver,.slice (hp j).choose.1 (hp j).choose.2.1 (hp j).choose.2.2]):=by
   have:=hrd _ _ hw hrs
   simp only [Rc.d,Rc.l,Rd,RdL,i64]
   exact ⟨_,rfl,rfl,rfl,rfl,rfl,rfl,this,trivial⟩
  have:=(bhash_ct q s k hk i hi _ hok).ok w' S0 #[.agg #[.int .u64 q.1,.int .u64 q.2],.agg #[kv],.int .i64 i,.agg #[.int .i64 (R.getD j Rc.z).id,.int .i64 (R.getD j Rc.z).ver,.slice (hp j).choose.1 (hp j).choose.2.1 (hp j).choose.2.2]] [] (fun b hb=>Nat.lt_of_lt_of_le (hS0 b hb) hw.size)
   (OdT.of_rd _ _ (rdtC h1 (rdtC h2 (rdtC h3 (rdtC h4 rdtN))))) List.nodup_nil ⟨by simp,fun x hx g hg=>⟨(hlw x hx g hg).1,by simp,(hlw x hx g hg).2.2⟩⟩
  refine this.mono ?_
  rintro e w2 ⟨v,r,outs,S',F',rfl,⟨h,ok,hh,rfl,rfl⟩,hB2,hO⟩
  simp only [OdT] at hO
  obtain ⟨F1,F2,_,hv,_⟩:=hO
  simp only [Od,OdT,u64] at hv
  obtain ⟨⟨cs⟩,rfl,hv⟩:=hv
  have hv2:cs = [.int .u64 h,.bool ok]:=by
   match cs,hv with
   | [x,y],hv =>
     simp only [OdT,Od,Rd] at hv
     obtain ⟨_,_,_,⟨rfl,_⟩,_,_,_,⟨rfl,_⟩,_⟩:=hv
     rfl
   | [],hv=>simp [OdT] at hv
   | [_],hv=>simp [OdT] at hv
   | _ :: _ :: _ :: _,hv=>simp [OdT] at hv
  subst hv2
  exact ⟨h,ok,hh,rfl,hB2.os,hB2.tape,hB2.output,hB2.size,fun k hk=>hB2.old k hk (by simp)⟩
 ·rintro e w' ⟨L,l,v,rfl,⟨_,hG⟩,hI⟩
  have hw:=hBw _ hI.B
  have hr:=bks_rd hI (fun b=>S0 b∨(w.heap.size≤b∧b<w'.heap.size)) fun b h1 h2=>.inr ⟨Nat.le_trans hB0.size h1,h2⟩
  refine ⟨v,bks L,[],fun b=>S0 b∨(w.heap.size≤b∧b<w'.heap.size),[],rfl,⟨L,⟨hG.ok (by omega) fun j hj=>?_,hG.sum⟩,rfl,rfl⟩,⟨hw.os,hw.tape,hw.output,hw.size,fun b hb' _=>hw.block b hb',fun _ h=>.inl h,fun _ h=>h.elim .inl fun h=>.inr (.inl h),List.nodup_nil,nofun,nofun⟩,?_⟩
  ·have hok:=hR.ok _ (mem_getD (z:=Rc.z) hj)
   exact ⟨hok.i1,hok.i2⟩
  ·simp only [OdT,ioV,i64,rcs]
   refine ⟨[],[],rfl,?_,rfl⟩
   simp only [bks,Od]
   exact ⟨hr,trivial⟩
end Kx
