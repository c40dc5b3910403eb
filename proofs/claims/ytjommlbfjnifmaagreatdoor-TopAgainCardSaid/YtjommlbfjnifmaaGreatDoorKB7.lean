/-
  Lists of refs dealt by an iterator, collected, sorted.
  No condition beyond those written in each theorem.
-/
import Derived.Test.YtjommlbfjnifmaaGreatDoorKB6
import Derived.Test.YtjommlbfjnifmaaGreatDoorFD
import Derived.WalkKit
import Derived.OwnWalkIn
import Derived.TacticsInMore
import Derived.LoopNIn
import Derived.LoopIn
import Derived.RangeFuncLeaves
import Derived.Shelf.RegionOpenPlain
set_option linter.unusedSimpArgs false
set_option linter.unusedVariables false
set_option maxRecDepth 4000
open Go Sx Go.Proofs
namespace Kx
section
open Go.RowKit
set_option maxRecDepth 100000 in
set_option maxHeartbeats 2000000 in
theorem valuesIt:EachIt Tryz.prog 181:=by
 refine ⟨⟨Tryz.f181,Tryz.func181,by decide,by decide⟩,fun n l b o0 bk o cap N f g J Jx W hN0 hN1 hgrow hhold hyield hJ=>?_⟩;refine (callsIn_wide (n:=n)).2 ((callsIn_wide (n:=5)).1 ?_)
 have hY:∀ k W,J k W->k<N->YieldAt Fence.wide (5 - 1) Tryz.prog l #[.agg #[.int .i64 (f k),.int .i64 (g k)]] W fun e W'=>(e = .returned (.bool true)/\J (k+1) W')\/(e = .returned (.bool false)/\Jx W'):=fun k W h1 h2=>by
  obtain ⟨fn,tm,asg,bo,e1,e2⟩:=hyield k W h1 h2;exact ⟨fn,tm,asg,bo,e1,e2.1,fun c cs _=>e2.2 c cs fun d h=>by cases h⟩
 have hbox:=(hhold 0 W hJ).box;refine callsIn_of_wp Tryz.func181 rfl trivial ?_ rfl;simp only [Tryz.ntmps181,List.size_toArray,List.length_cons,List.length_nil,Nat.reduceAdd,Nat.reduceSub,Array.replicate_succ,Array.replicate_zero,List.push_toArray,List.append_toArray,List.nil_append,List.cons_append]
 gi_wp2
 gi_loopw [7] (fun i wr=>∃ k:Nat,k<=N/\i = .int .i64 k/\J k wr) (fun i _=>N - (Go.Proofs.intOf i).toNat)
 case atStart=>exact ⟨0,zle _,rfl,hJ⟩
 case round =>
  obtain ⟨k,hk,rfl,hJs⟩:=hrel;by_cases hlt:k<N
  ·have h1:=(hhold k wr hJs).el1 k hlt;have h2:=(hhold k wr hJs).el2 k hlt;obtain ⟨fn,tmps,assign,body,hy,hR⟩:=hY k (wr.alloc (.cells #[.int .i64 (f k),.int .i64 (g k)] 102)) (hgrow _ _ _ hJs ((Below.refl _ wr).alloc (Nat.le_refl _) _)) hlt
   gi_wp2
   refine hR.mono ?_
   rintro e W3 (⟨rfl,hJ3⟩ | ⟨rfl,hx⟩)
   ·gi_wp2
    go_roundw
    case rel=>exact ⟨k+1,by omega,by simp,hJ3⟩
    case measure=>simp [Go.Proofs.intOf];omega
   ·gi_wp2
    (try simp only [Exit.inBlock,Exit.then])
    refine bodyPost_ret (results_none rfl _ _ _) rfl ?_;exact ⟨⟨_,rfl⟩,.inr hx⟩
  ·obtain rfl:k=N:=by omega
   gi_wp2
   go_end0
   exact ⟨⟨_,rfl⟩,.inl hJs⟩
end
def keysIn (lv:List Nat):List (Nat × D)->Bool
 | []=>true
 | (t,_) :: l=>match memN t lv with
   | true=>keysIn lv l| false=>false
theorem lkE_off {lv:List Nat} {t:Nat} (h:memN t lv=false):∀ sl:List (Nat × D),keysIn lv sl=true->lkE sl t = .any
 | [],_=>rfl
 | (k,d) :: sl,hk=>by
   unfold keysIn at hk;split at hk
   ·rename_i h1;unfold lkE;split
    ·rename_i e;rw [nbq e,h] at h1;cases h1
    ·exact lkE_off h sl hk
   ·cases hk
theorem values_ct (l:List Rf):Cr 133 [rfs l] (.fn 181 [.ref [rfs l]]):=by
 refine .det (De Tryz.func133 [] [0] ?_)
 repeat' first|refine S0 ?_;conv=>whnf
 refine Cw [] [] (α:=Unit) (fun u=>[(1,.ref [rfs l])]) (fun u=>[]) 0 (fun u=>True) ?_ ?_
 ·repeat' first|refine S0 ?_;conv=>whnf
  all_goals refine Again.by () trivial ?_
  all_goals
   repeat' first|refine S0 ?_;conv=>whnf|refine Vo ?_|exact T0
 ·intro _ _
  repeat' first|refine S0 ?_;conv=>whnf|refine Vo ?_|exact T0|exact T1|refine T2 ?_ ?_
theorem appseq_ct (l:List Rf) (h0:0<l.length) (h1:l.length<=1000):Cr 212 [.nil,.fn 181 [.ref [rfs l]]] (rfsO l):=by
 refine .det (De Tryz.func212 [] [] ?_)
 repeat' first|refine S0 ?_;conv=>whnf
 refine CodeOK.each (tg:=6) hΓ hm valuesIt [] (by kernel_rfl) (Y:=Nat) [2,6]
  (fun _=>[(2,.loc 0 0),(6,.fn 181 [.ref [rfs l]])])
  (fun i=>[(0,.var [.own 1]),(1,.arr 102 2 i fun j=>Rf.f (l.getD j Rf.z))]) 2 l.length (fun i=>(l.getD i Rf.z).g) (fun i=>(l.getD i Rf.z).i) (fun y i=>y=i) h0 (by omega)
  (fun y t h=>lkE_off h _ rfl) (by kernel_rfl) (fun _=>rfl) ?_ ?_ ?_
 ·refine Again.by 0 rfl ?_
  repeat' first|refine S0 ?_;conv=>whnf|refine Vo ?_|exact T0|refine Cho.r ?_
 ·rintro y i rfl hlt
  repeat' first|refine S0 ?_;conv=>whnf|refine Vb ?_
  all_goals
   refine Again.by (y+1) rfl ?_
   repeat' first|refine S0 ?_;conv=>whnf|refine Vo ?_|exact T0|(refine Cho.l (Step.out ?_))|(exact ⟨rfl,rfl⟩)|refine Vm ?_ ?_
   refine ⟨rfl,fun i hi=>?_⟩;dsimp only;by_cases e:i<y
   ·rw [show i - y=0 by omega];exact (ite_rf _ (l.getD i Rf.z) (l.getD y Rf.z)).trans (by rw [if_pos e])
   ·obtain rfl:i=y:=by omega
    rw [Nat.sub_self];exact (ite_rf _ (l.getD i Rf.z) (l.getD i Rf.z)).trans (by rw [if_neg e])
 ·rintro y rfl
  repeat' first|refine S0 ?_;conv=>whnf|exact T0|exact T1|refine T2 ?_ ?_
theorem collect_ct (l:List Rf) (h0:0<l.length) (h1:l.length<=1000):Cr 180 [.fn 181 [.ref [rfs l]]] (rfsO l):=by
 have hc:=appseq_ct l h0 h1;refine .det (De Tryz.func180 [] [] ?_)
 repeat' first|refine S0 ?_;conv=>whnf|exact T0|exact T1|(refine M0 hc ?_)|refine T2 ?_ ?_|refine K0 ?_
theorem sortedf_ct (l:List Rf) (h0:0<l.length) (h1:l.length<=1000):Cr 132 [.fn 181 [.ref [rfs l]],.fn 45 []] (rfs (srtR l)):=by
 have hc:=collect_ct l h0 h1
 have hs:(srtR l).length<=1000:=by rw [srtR_len];omega
 refine .det (De Tryz.func132 [] [] ?_)
 repeat' first|(refine CallOK.sortG encR 2 (by decide) (fun _=>rfl) Rf.z l (srtR l) ⟨Tryz.f174,Tryz.func174,by decide,by decide⟩ rfl ⟨rfl,fun _ _=>rfl⟩ (srtR_len _) (fun _ p cap w=>sortR_none p cap w) (fun _ blk cap w hH hb=>sortR_law _ (by omega) blk cap w hH hb) ?_)|refine S0 ?_;conv=>whnf|exact T0|(refine M0 hc ?_)|refine T2 ?_ ?_|refine K0 ?_
 all_goals exact ⟨rfl,fun _ _=>rfl⟩
theorem srt_set {l:List Rf} (h:l.Nodup):srtR l=setR l:=by
 refine setR_of ?_ fun x=>(srtR_perm l).mem_iff
 have hn:(srtR l).Nodup:=(srtR_perm l).nodup_iff.2 h;refine List.Pairwise.imp₂ (fun {a b} h1 h2=>?_) (srtR_ord l) hn
 rcases ltR_tri a b with k | k | k
 ·exact k
 ·exact absurd k h2
 ·exact absurd k h1
end Kx
open Go Sx Go.Proofs
namespace Kx
open Go.Shelf Go.RowKit Go.Lib Go.Sort
abbrev Cq:=Rf × Rf
def Cq.z:Cq:=(Rf.z,Rf.z)
def Cq.f (c:Cq):List D:=[i64 c.1.g,i64 c.1.i,i64 c.2.g,i64 c.2.i]
def cqs (l:List Cq):D:=.tab 4 l.length fun i=>Cq.f (l.getD i Cq.z)
def cqsO (l:List Cq):D:=.ftab 176 4 l.length fun i=>Cq.f (l.getD i Cq.z)
def encQ (c:Cq):List Int:=[c.1.g,c.1.i,c.2.g,c.2.i]
def cfQ (x y:Cq):Int:=if cfR x.1 y.1≠0 then cfR x.1 y.1 else cfR x.2 y.2
def ltQ (x y:Cq):Prop:=ltR x.1 y.1\/(x.1=y.1/\ltR x.2 y.2)
instance (x y:Cq):Decidable (ltQ x y):=inferInstanceAs (Decidable (_\/_))
theorem cfR_neg (x y:Rf):cfR x y<0 ↔ ltR x y:=decide_eq_decide.1 (ltRf x y)
theorem cfR_zero (x y:Rf):cfR x y=0 ↔ x=y:=by
 constructor
 ·intro h;refine totR x y ?_ ?_
  ·rw [ltRf];exact decide_eq_false fun e=>by rw [<-cfR_neg] at e;omega
  ·rw [ltRf];refine decide_eq_false fun e=>?_
   rw [ltR,cmpR_lt] at e;unfold cfR Lib.compareInt at h
   (repeat' split at h)<;>omega
 ·rintro rfl
  unfold cfR Lib.compareInt;simp
theorem ltQf (x y:Cq):ltOf cfQ x y=decide (ltQ x y):=by
 unfold ltOf cfQ ltQ;apply decide_eq_decide.2;by_cases h:cfR x.1 y.1=0
 ·rw [if_neg (not_not_intro h),cfR_neg];have e:=(cfR_zero _ _).1 h;rw [e];exact ⟨fun k=>.inr ⟨rfl,k⟩,fun k=>k.elim (fun k=>absurd k (ltR_irrefl _)) fun k=>k.2⟩
 ·rw [if_pos h,cfR_neg];refine ⟨.inl,fun k=>k.elim id fun k=>absurd ((cfR_zero _ _).2 k.1) h⟩
theorem ltQ_irrefl (x:Cq):¬ ltQ x x:=fun h=>h.elim (ltR_irrefl _) fun h=>ltR_irrefl _ h.2
theorem ltQ.trans {x y z:Cq} (h:ltQ x y) (k:ltQ y z):ltQ x z:=by
 rcases h with h | ⟨e,h⟩<;>rcases k with k | ⟨e',k⟩
 ·exact .inl (h.trans k)
 ·exact .inl (e' ▸ h)
 ·exact .inl (e ▸ k)
 ·exact .inr ⟨e.trans e',h.trans k⟩
theorem ltQ_tri (x y:Cq):ltQ x y\/x=y\/ltQ y x:=by
 rcases ltR_tri x.1 y.1 with h | h | h
 ·exact .inl (.inl h)
 ·rcases ltR_tri x.2 y.2 with k | k | k
  ·exact .inl (.inr ⟨h,k⟩)
  ·exact .inr (.inl (Prod.ext h k))
  ·exact .inr (.inr (.inr ⟨h.symm,k⟩))
 ·exact .inr (.inr (.inl h))
theorem totQ (x y:Cq) (h1:ltOf cfQ x y=false) (h2:ltOf cfQ y x=false):x=y:=by
 rw [ltQf,decide_eq_false_iff_not] at h1 h2
 rcases ltQ_tri x y with h | h | h
 ·exact absurd h h1
 ·exact h
 ·exact absurd h h2
theorem swoQ:SWO (ltOf cfQ) where
 irrefl x:=by rw [ltQf];exact decide_eq_false (ltQ_irrefl x)
 trans x y z h1 h2:=by
  rw [ltQf,decide_eq_true_eq] at *;exact h1.trans h2
 ntrans x y z h1 h2:=by
  rw [ltQf,decide_eq_false_iff_not] at *;intro h
  rcases ltQ_tri x y with k | k | k
  ·exact h1 k
  ·subst k;exact h2 h
  ·exact h2 (k.trans h)
def Gw (W w:World):Prop:=∃ q os,w=grow (W.drewN q) os
theorem Gw.grown {W w:World} (h:Gw W w) (q:Nat) (os:Array Obj):Gw W (grow (w.drewN q) os):=by
 obtain ⟨q0,os0,rfl⟩:=h;refine ⟨q0+q,os0 ++ os,?_⟩
 show grow (grow ((W.drewN q0).drewN q) os0) os=_
 rw [grow_grow,World.drewN_drewN]
theorem Gw.alloc {W w:World} (h:Gw W w) (o:Obj):Gw W (w.alloc o):=by
 have:=h.grown 0 #[o];rw [alloc_eq_grow];exact this
theorem gw0 (W:World) (o o' : Obj):Gw W ((W.alloc o).alloc o'):=⟨0,#[o,o'],by rw [alloc_eq_grow,alloc_eq_grow,grow_grow];rfl⟩
abbrev S8 (W:World) (v1 v2 v3 v4 u1 u2 u3 u4:Value) (w:World):Prop :=
 (w.cell? ⟨W.heap.size,0,none⟩=some v1/\w.cell? ⟨W.heap.size,1,none⟩=some v2/\w.cell? ⟨W.heap.size,2,none⟩=some v3/\w.cell? ⟨W.heap.size,3,none⟩=some v4) /\
 (w.cell? ⟨W.heap.size+1,0,none⟩=some u1/\w.cell? ⟨W.heap.size+1,1,none⟩=some u2/\w.cell? ⟨W.heap.size+1,2,none⟩=some u3/\w.cell? ⟨W.heap.size+1,3,none⟩=some u4)/\Gw W w/\W.heap.size+1<w.heap.size
theorem S8.grown {W w:World} {v1 v2 v3 v4 u1 u2 u3 u4:Value} (h:S8 W v1 v2 v3 v4 u1 u2 u3 u4 w) (q:Nat) (os:Array Obj):S8 W v1 v2 v3 v4 u1 u2 u3 u4 (grow (w.drewN q) os):=by
 obtain ⟨⟨a1,a2,a3,a4⟩,⟨b1,b2,b3,b4⟩,g,hs⟩:=h
 have e:∀ a:Addr,a.block<w.heap.size->(grow (w.drewN q) os).cell? a=w.cell? a:=fun a ha=>cell?_grow (w.drewN q) os a ha
 have s0:W.heap.size<w.heap.size:=by omega
 refine ⟨⟨?_,?_,?_,?_⟩,⟨?_,?_,?_,?_⟩,g.grown q os,?_⟩
 ·rw [e _ s0];exact a1
 ·rw [e _ s0];exact a2
 ·rw [e _ s0];exact a3
 ·rw [e _ s0];exact a4
 ·rw [e _ hs];exact b1
 ·rw [e _ hs];exact b2
 ·rw [e _ hs];exact b3
 ·rw [e _ hs];exact b4
 ·have:(grow (w.drewN q) os).heap.size=w.heap.size+os.size:=by
   show (w.heap ++ os).size=_
   rw [Array.size_append]
  omega
theorem S8.drew {W w:World} {v1 v2 v3 v4 u1 u2 u3 u4:Value} (h:S8 W v1 v2 v3 v4 u1 u2 u3 u4 w):S8 W v1 v2 v3 v4 u1 u2 u3 u4 w.drew:=by
 have:=h.grown 1 #[]
 rwa [grow_empty] at this
theorem S8.alloc {W w:World} {v1 v2 v3 v4 u1 u2 u3 u4:Value} (h:S8 W v1 v2 v3 v4 u1 u2 u3 u4 w) (o:Obj):S8 W v1 v2 v3 v4 u1 u2 u3 u4 (w.alloc o):=by
 have:=h.grown 0 #[o];rw [alloc_eq_grow];exact this
theorem S8.start (W:World) (v1 v2 v3 v4 u1 u2 u3 u4:Value) (t t' : Nat):S8 W v1 v2 v3 v4 u1 u2 u3 u4 ((W.alloc (.cells #[v1,v2,v3,v4] t)).alloc (.cells #[u1,u2,u3,u4] t')):=by
 have h0:((W.alloc (.cells #[v1,v2,v3,v4] t)).alloc (.cells #[u1,u2,u3,u4] t')).heap[W.heap.size]? = some (.cells #[v1,v2,v3,v4] t):=by
  show ((W.heap.push (.cells #[v1,v2,v3,v4] t)).push (.cells #[u1,u2,u3,u4] t'))[W.heap.size]? = _
  rw [Array.getElem?_push,if_neg (by simp),Array.getElem?_push,if_pos rfl]
 have h1:((W.alloc (.cells #[v1,v2,v3,v4] t)).alloc (.cells #[u1,u2,u3,u4] t')).heap[W.heap.size+1]? = some (.cells #[u1,u2,u3,u4] t'):=by
  show ((W.heap.push (.cells #[v1,v2,v3,v4] t)).push (.cells #[u1,u2,u3,u4] t'))[W.heap.size+1]? = _
  rw [Array.getElem?_push,if_pos (by simp)]
 refine ⟨⟨?_,?_,?_,?_⟩,⟨?_,?_,?_,?_⟩,⟨0,#[_,_],by rw [alloc_eq_grow,alloc_eq_grow,grow_grow];rfl⟩,?_⟩
 ·simp only [World.cell?,h0];rfl
 ·simp only [World.cell?,h0];rfl
 ·simp only [World.cell?,h0];rfl
 ·simp only [World.cell?,h0];rfl
 ·simp only [World.cell?,h1];rfl
 ·simp only [World.cell?,h1];rfl
 ·simp only [World.cell?,h1];rfl
 ·simp only [World.cell?,h1];rfl
 ·show W.heap.size+1<((W.heap.push _).push _).size
  simp
theorem two_new (X:World) (r s:Value) (t n:Nat) (hn:n=X.heap.size):(X.alloc (.cells #[r,s] t)).cell? ⟨n,0,none⟩=some r/\(X.alloc (.cells #[r,s] t)).cell? ⟨n,1,none⟩=some s:=by
 subst hn
 have h:(X.alloc (.cells #[r,s] t)).heap[X.heap.size]? = some (.cells #[r,s] t):=by
  show (X.heap.push (.cells #[r,s] t))[X.heap.size]? = _
  rw [Array.getElem?_push,if_pos rfl]
 constructor
 ·simp only [World.cell?,h];rfl
 ·simp only [World.cell?,h];rfl
theorem grow_sz (w:World) (os:Array Obj):(grow w os).heap.size=w.heap.size+os.size:=by
 show (w.heap ++ os).size=_
 rw [Array.size_append]
theorem drewN_sz (w:World) (n:Nat):(w.drewN n).heap.size=w.heap.size:=rfl
theorem alloc_sz (w:World) (o:Obj):(w.alloc o).heap.size=w.heap.size+1:=World.size_alloc ..
set_option maxHeartbeats 400000 in
set_option maxRecDepth 1000000 in
theorem closeQ0 (a1 a2 a3 a4 b1 b2 b3 b4 r s:Int) (W:World) (c1:∀ W,Calls Tryz.prog 45 #[.agg #[.int .i64 a1,.int .i64 a2],.agg #[.int .i64 b1,.int .i64 b2]] W fun e w'=>e = .returned (.int .i64 r)/\∃ q os',w' = grow (W.drewN q) os')
 (c2:∀ W,Calls Tryz.prog 45 #[.agg #[.int .i64 a3,.int .i64 a4],.agg #[.int .i64 b3,.int .i64 b4]] W fun e w'=>e = .returned (.int .i64 s)/\∃ q os',w' = grow (W.drewN q) os') :
 Calls Tryz.prog 137 #[.agg #[.int .i64 a1,.int .i64 a2,.int .i64 a3,.int .i64 a4],.agg #[.int .i64 b1,.int .i64 b2,.int .i64 b3,.int .i64 b4]] W fun e w'=>e = .returned (.int .i64 (if r≠0 then r else s))/\∃ q os',w' = grow (W.drewN q) os':=by
 have mixed:=hm;have hO:=orW r s;generalize (if r≠0 then r else s)=u at hO ⊢
 go_enter Tryz.func137,Tryz.ntmps137
 go_wp2
 go_region_held2 (fun w'=>(w'.cell? ⟨W.heap.size,0,none⟩=some (.int .i64 a1)/\w'.cell? ⟨W.heap.size,1,none⟩=some (.int .i64 a2)/\w'.cell? ⟨W.heap.size,2,none⟩=some (.int .i64 a3)/\w'.cell? ⟨W.heap.size,3,none⟩=some (.int .i64 a4))/\(w'.cell? ⟨W.heap.size+1,0,none⟩=some (.int .i64 b1)/\w'.cell? ⟨W.heap.size+1,1,none⟩=some (.int .i64 b2)/\w'.cell? ⟨W.heap.size+1,2,none⟩=some (.int .i64 b3)/\w'.cell? ⟨W.heap.size+1,3,none⟩=some (.int .i64 b4))/\Gw W w'/\W.heap.size+1<w'.heap.size)
  (with_reducible (first | assumption | exact ((S8.start _ _ _ _ _ _ _ _ _ _ _).grown _ _).grown _ _ | exact (S8.start _ _ _ _ _ _ _ _ _ _ _).grown _ _ | exact (((S8.start _ _ _ _ _ _ _ _ _ _ _).grown _ _).grown _ _).drew | exact ((S8.start _ _ _ _ _ _ _ _ _ _ _).grown _ _).drew | exact ((((S8.start _ _ _ _ _ _ _ _ _ _ _).grown _ _).grown _ _).alloc _).drew | exact (((S8.start _ _ _ _ _ _ _ _ _ _ _).grown _ _).grown _ _).alloc _ | exact (S8.start _ _ _ _ _ _ _ _ _ _ _).drew | exact (S8.start _ _ _ _ _ _ _ _ _ _ _)))
  (first
  | (go_at_call_of 45 (Value.agg #[.int .i64 a1,.int .i64 a2]);refine (c1 _).mono ?_;rintro e w' ⟨rfl,q,os,rfl⟩)
  | (go_at_call_of 45 (Value.agg #[.int .i64 a3,.int .i64 a4]);refine (c2 _).mono ?_;rintro e w' ⟨rfl,q,os,rfl⟩)
  | (go_at_call 90;refine (hO _ _ (two_new _ _ _ _ _ (by simp only [grow_sz,drewN_sz,alloc_sz]<;>omega)).1 (two_new _ _ _ _ _ (by simp only [grow_sz,drewN_sz,alloc_sz]<;>omega)).2).mono ?_;rintro e w' ⟨rfl,rfl⟩))
 go_wp2
 go_ret
 exact ⟨rfl,(((gw0 W _ _).grown _ _).grown _ _).alloc _⟩
theorem closeQ (x y:Cq) (W:World):Calls Tryz.prog 137 #[.agg (encV encQ x).toArray,.agg (encV encQ y).toArray] W fun e w'=>e = .returned (.int .i64 (cfQ x y))/\∃ q os',w' = grow (W.drewN q) os' :=
 closeQ0 x.1.g x.1.i x.2.g x.2.i y.1.g y.1.i y.2.g y.2.i _ _ W (fun W=>closeR x.1 y.1 W) (fun W=>closeR x.2 y.2 W)
def srtQ (l:List Cq):List Cq:=l.mergeSort fun x y=>!(ltOf cfQ) y x
theorem srtQ_len (l:List Cq):(srtQ l).length=l.length:=List.length_mergeSort l
theorem srtQ_perm (l:List Cq):(srtQ l).Perm l:=List.mergeSort_perm l _
theorem sortQ_law (l:List Cq) (hl:l.length<=1000000) (blk cap:Nat) (w:World) (hH:HoldsK (encV encQ) 4 w blk 0 l.toArray) (hb:blk<w.heap.size) :
 Calls Tryz.prog 136 #[.slice (some ⟨blk,0,none⟩) l.length cap,.func (.func 137) #[] #[]] w fun e w'=>e = .returned (.tuple #[])/\∃ n os,w' = sortWorldK (encV encQ) 4 w blk 0 n (srtQ l).toArray os:=by
 have eg:∀ args w,(callFunc 137 args).run Tryz.prog w = .ok (.enter 137 args) w:=enters_of Tryz.func137 (by kernel_rfl) rfl;exact AnyQ.slices_SortFunc_total Go.Proofs.Kx.sortQ 4 (fun w=>Tryz.isAgg176 w) (fun w=>Tryz.sizeOf176 w) (encV encQ) (fun _=>rfl) (fun x v hv=>by simp [encV,encQ] at hv;rcases hv with rfl | rfl | rfl | rfl<;>rfl) cfQ swoQ 137 #[] blk 0 cap l.toArray w eg (fun _ _ _ _ x y=>closeQ x y _) hH hb (by simp;omega) totQ
theorem sortQ_none (p:Option Addr) (cap:Nat) (w:World):Calls Tryz.prog 136 #[.slice p 0 cap,.func (.func 137) #[] #[]] w fun e w'=>e = .returned (.tuple #[])/\w' = w :=
 AnyF.slices_SortFunc_none (P:=Tryz.prog) (ρ:=Go.Proofs.Kx.sortQ_ren) { Go.Proofs.Kx.sortQ with } p cap (.func (.func 137) #[] #[]) w
end Kx
open Go Sx Go.Proofs
namespace Kx
theorem ite_cq (c:Prop) [Decidable c] (x y:Cq):iteL c (Cq.f x) (Cq.f y)=Cq.f (if c then x else y):=by
 show [i64 (if c then _ else _),i64 (if c then _ else _),i64 (if c then _ else _),i64 (if c then _ else _)]=_
 split<;>rfl
theorem cq_ext {x y:Cq} (h:((x.1.g=y.1.g/\x.1.i=y.1.i)/\x.2.g=y.2.g)/\x.2.i=y.2.i):x=y:=by
 obtain ⟨⟨_,_⟩,⟨_,_⟩⟩:=x;obtain ⟨⟨_,_⟩,⟨_,_⟩⟩:=y;simp_all
theorem cq_sec {x y:Cq} (h:x=y):((x.1.g=y.1.g/\x.1.i=y.1.i)/\x.2.g=y.2.g)/\x.2.i=y.2.i:=by rw [h];exact ⟨⟨⟨rfl,rfl⟩,rfl⟩,rfl⟩
def cptQ (l:List Cq):Nat->List Cq
 | 0=>[]
 | n+1=>if 1<=n/\l.getD n Cq.z=l.getD (n - 1) Cq.z then cptQ l n else cptQ l n ++ [l.getD n Cq.z]
theorem cptQ_len (l:List Cq):∀ n,(cptQ l n).length<=n
 | 0=>Nat.le_refl _
 | n+1=>by
   have:=cptQ_len l n;unfold cptQ;split
   ·omega
   ·simp;omega
theorem cptQ_dup {l:List Cq} {n:Nat} (h1:1<=n) (h:l.getD n Cq.z=l.getD (n - 1) Cq.z):cptQ l (n+1)=cptQ l n:=by rw [cptQ,if_pos ⟨h1,h⟩]
theorem cptQ_new {l:List Cq} {n:Nat} (h:¬(1<=n/\l.getD n Cq.z=l.getD (n - 1) Cq.z)):cptQ l (n+1)=cptQ l n ++ [l.getD n Cq.z]:=by rw [cptQ,if_neg h]
theorem cptQ_pos (l:List Cq):∀ n,1<=n->1<=(cptQ l n).length
 | 1,_=>by simp [cptQ]
 | n+2,_=>by
   have:=cptQ_pos l (n+1) (by omega);rw [cptQ];split
   ·exact this
   ·simp
theorem take_snocQ (l:List Cq) (n:Nat) (h:n<l.length):l.take (n+1)=l.take n ++ [l.getD n Cq.z]:=by
 rw [gDe,List.getElem?_eq_getElem h,List.take_add_one,List.getElem?_eq_getElem h];rfl
def midQ (l:List Cq) (i:Nat):List Cq:=cptQ l i ++ l.drop (cptQ l i).length
theorem midQ_hi (l:List Cq) (i j:Nat) (h:(cptQ l i).length<=j):(midQ l i).getD j Cq.z=l.getD j Cq.z:=by
 unfold midQ;rw [gDe,List.getElem?_append_right h,List.getElem?_drop,gDe]
 congr 2;omega
theorem midQ_lo (l:List Cq) (i j:Nat) (h:j<(cptQ l i).length):(midQ l i).getD j Cq.z=(cptQ l i).getD j Cq.z:=by
 unfold midQ;rw [gDe,List.getElem?_append_left h,gDe]
theorem compactq_ct (l:List Cq) (hl:l.length<=1000000):Cr 138 [cqsO l] (cqsO (cptQ l l.length)):=by
 refine .det (.of_Wo (fn:=Tryz.f138) hΓ hm Tryz.func138 ord138 [8] (by kernel_rfl) (Step.out ?_))
 repeat' first|refine S0 ?_;conv=>whnf|refine Vo ?_|exact T0|refine B1 ?_|(refine Br.d (fun h=>?_) fun h=>?_)|refine T2 ?_ ?_|(refine Cp.mk fun q hq=>Step.out ?_)
 ·rw [List.eq_nil_of_length_eq_zero h];rfl
 ·have e:cptQ l l.length=l:=by
   match l,h with
   | [],_=>rfl| [a],_=>rfl
   | _ :: _ :: _,h=>simp only [List.length_cons] at h;omega
  rw [e];exact ⟨rfl,fun _ _=>rfl⟩
 ·refine Lw ord138 [8] (α:=Nat) (fun k=>[(0,.rsl 0 4 0 l.length q),(3,i64 k)]) (fun k=>[(0,.blk 176 4 q l.length fun i=>Cq.f (l.getD i Cq.z))]) 1 (fun k=>(1<=k/\k<=l.length)/\cptQ l k=l.take k) (fun k=>l.length - k) ?_ ?_
  ·refine Again.by 1 ⟨⟨Nat.le_refl _,by omega⟩,?_⟩ ?_
   ·rw [take_snocQ l 0 (by omega)];rfl
   repeat' first|refine S0 ?_;conv=>whnf|refine Vo ?_|exact T0|(exact ⟨rfl,Nat.le_refl _,fun _ _=>rfl⟩)|refine Vm ?_ ?_
  ·intro k ⟨hk,he⟩;dsimp only at hk he ⊢
   repeat' first|refine S0 ?_;conv=>whnf|refine Vo ?_|exact T0|refine W6 ?_|refine B1 ?_|(refine Br.d (fun h=>?_) fun h=>?_)|refine T2 ?_ ?_
   ·have hd:l.getD k Cq.z=l.getD (k - 1) Cq.z:=by
     have e1:0+(k:Int).toNat=k:=by omega
     have e2:0+((k:Int) - 1).toNat=k - 1:=by omega
     rw [e1,e2] at h;exact cq_ext h
    have he1:cptQ l (k+1)=l.take k:=by rw [cptQ_dup hk.1 hd,he]
    refine Cw ord138 [] (α:=Unit) (fun z=>[(0,.rsl 0 4 0 l.length q),(3,i64 (cptQ l l.length).length)]) (fun z=>[(0,.blk 176 4 q (cptQ l l.length).length fun i=>Cq.f ((cptQ l l.length).getD i Cq.z))]) 1 (fun z=>True) ?_ ?_
    ·repeat' first|refine S0 ?_;conv=>whnf
     refine Lw ord138 [] (α:=Nat) (fun j=>[(0,.rsl 0 4 0 l.length q),(3,i64 (cptQ l (k+j)).length),(4,.rsl 0 4 k (l.length - k) (q - k)),(5,i64 j)]) (fun j=>[(0,.blk 176 4 q l.length fun i=>Cq.f ((midQ l (k+j)).getD i Cq.z))]) 1 (fun j=>(1<=j/\k+j<=l.length)/\(cptQ l (k+j)).length<k+j) (fun j=>l.length - k - j) ?_ ?_
     ·refine Again.by 1 ⟨⟨Nat.le_refl _,by omega⟩,?_⟩ ?_
      ·rw [he1,List.length_take];omega
      repeat' first|refine S0 ?_;conv=>whnf|refine Vo ?_|exact T0|(rw [he1,List.length_take];omega)|(exact ⟨rfl,Nat.le_refl _,fun i _=>by dsimp only;congr 1;unfold midQ;rw [he1,List.length_take,Nat.min_eq_left (by omega),List.take_append_drop]⟩)|refine Vm ?_ ?_
     ·intro j ⟨hj,hlt⟩;dsimp only at hj hlt ⊢;have hp:=cptQ_pos l (k+j) (by omega);have e0:k+(j+1)=k+j+1:=rfl
      have e1:k+(j:Int).toNat=k+j:=by omega
      have m1:=midQ_hi l (k+j) (k+j) (by omega);have m2:=midQ_hi l (k+j) (k+j - 1) (by omega)
      repeat' first|refine S0 ?_;conv=>whnf|refine Vo ?_|refine W6 ?_|(refine Br.d (fun h=>?_) fun h=>?_)|refine Br.bnot ?_
      ·have e2:k+((j:Int) - 1).toNat=k+j - 1:=by omega
       rw [e1,e2,m1,m2] at h;have hd2:cptQ l (k+j+1)=cptQ l (k+j):=cptQ_dup (by omega) (cq_ext h)
       have hm2:midQ l (k+j+1)=midQ l (k+j):=by unfold midQ;rw [hd2]
       refine Again.by (j+1) ⟨⟨⟨by omega,by omega⟩,by rw [e0,hd2];omega⟩,by omega⟩ ?_
       repeat' first|refine S0 ?_;conv=>whnf|refine Vo ?_|exact T0|(rw [e0,hd2];done)|(exact ⟨rfl,Nat.le_refl _,fun i _=>by dsimp only;rw [e0,hm2]⟩)|refine Vm ?_ ?_
      ·have e2:k+((j:Int) - 1).toNat=k+j - 1:=by omega
       rw [e1,e2,m1,m2] at h
       have hd2:cptQ l (k+j+1)=cptQ l (k+j) ++ [l.getD (k+j) Cq.z]:=cptQ_new fun e=>h (cq_sec e.2)
       have hl2:(cptQ l (k+j+1)).length=(cptQ l (k+j)).length+1:=by rw [hd2];simp
       refine Again.by (j+1) ⟨⟨⟨by omega,by omega⟩,by rw [e0,hl2];omega⟩,by omega⟩ ?_
       repeat' first|refine S0 ?_;conv=>whnf|refine Vo ?_|exact T0|(rw [e0,hl2];omega)|refine Vm ?_ ?_
       refine ⟨rfl,Nat.le_refl _,fun i hi=>?_⟩;dsimp only;refine (ite_cq _ ((midQ l (k+j)).getD (k+(j:Int).toNat) Cq.z) _).trans ?_
       congr 1
       rw [e0,e1,m1];split
       ·rename_i hi2
        have hi3:i=(cptQ l (k+j)).length:=by omega
        rw [midQ_lo _ _ _ (by rw [hl2];omega),hd2,hi3,gDe (l:=_ ++ _),List.getElem?_append_right (Nat.le_refl _),Nat.sub_self];rfl
       ·rename_i hi2;by_cases hi3:i<(cptQ l (k+j)).length
        ·rw [midQ_lo _ _ _ hi3,midQ_lo _ _ _ (by rw [hl2];omega),hd2,gDe (l:=_ ++ _),List.getElem?_append_left hi3,gDe]
        ·rw [midQ_hi _ _ _ (by omega),midQ_hi _ _ _ (by rw [hl2];omega)]
      ·have hkj:k+j=l.length:=by omega
       rw [hkj] at hlt hp
       refine Again.by () trivial ?_
       repeat' first|refine S0 ?_;conv=>whnf|refine Vo ?_|exact T0|(rw [hkj];done)|(exact ⟨rfl,cptQ_len l _,fun i hi=>by dsimp only;rw [hkj,midQ_lo _ _ _ hi]⟩)|refine Vm ?_ ?_
    ·intro _ _;have hp2:=cptQ_len l l.length
     repeat' first|refine S0 ?_;conv=>whnf|refine Vo ?_|exact T0|refine B1 ?_|(refine Br.d (fun h=>?_) fun h=>?_)|refine T2 ?_ ?_
     all_goals exact ⟨by simp,fun _ _=>rfl⟩
   ·refine Again.by (k+1) ⟨⟨⟨by omega,by omega⟩,?_⟩,by omega⟩ ?_
    ·have e1:0+(k:Int).toNat=k:=by omega
     have e2:0+((k:Int) - 1).toNat=k - 1:=by omega
     rw [e1,e2] at h;rw [cptQ_new fun e=>h (cq_sec e.2),he,take_snocQ l k (by omega)]
    repeat' first|refine S0 ?_;conv=>whnf|refine Vo ?_|exact T0|(exact ⟨rfl,Nat.le_refl _,fun _ _=>rfl⟩)|refine Vm ?_ ?_
   ·have hk2:k=l.length:=by omega
    have e:cptQ l l.length=l:=by rw [<-hk2,he,hk2,List.take_length]
    rw [e];exact ⟨by omega,fun _ _=>rfl⟩
theorem cptQ_mem (l:List Cq):∀ n,n<=l.length->∀ x,x ∈ cptQ l n ↔ x ∈ l.take n
 | 0,_,x=>by simp [cptQ]
 | n+1,hn,x=>by
   have ih:=cptQ_mem l n (by omega);rw [take_snocQ l n (by omega),List.mem_append,List.mem_singleton];by_cases hd:1<=n/\l.getD n Cq.z=l.getD (n - 1) Cq.z
   ·rw [cptQ_dup hd.1 hd.2,ih];refine ⟨.inl,fun h=>h.elim id fun e=>?_⟩;rw [e,hd.2];refine List.mem_iff_getElem?.2 ⟨n - 1,?_⟩;rw [List.getElem?_take,if_pos (by omega),gDe,List.getElem?_eq_getElem (show n - 1<l.length by omega)];rfl
   ·rw [cptQ_new hd,List.mem_append,List.mem_singleton,ih]
theorem equalq_ct (l m:List Cq) (h0:l.length<=1000000) (h1:m.length<=1000000):Cr 83 [cqs l,cqs m] (.bool (decide (l=m))):=by
 refine .det (De Tryz.func83 ord83 [] ?_)
 repeat' first|refine S0 ?_;conv=>whnf|exact T0|(refine Br.d (fun h=>?_) fun h=>?_)|refine Br.bnot ?_|refine T2 ?_ ?_
 ·have hlm:l.length=m.length:=by omega
  refine Lw ord83 [] (α:=Nat) (fun i=>[(0,cqs l),(1,cqs m),(12,i64 l.length),(13,i64 i)]) (fun i=>[]) 0 (fun i=>i<=l.length/\∀ j,j<i->l.getD j Cq.z=m.getD j Cq.z) (fun i=>l.length - i) ?_ ?_
  ·refine Again.by 0 ⟨zle _,fun j hj=>absurd hj (Nat.not_lt_zero j)⟩ ?_
   repeat' first|refine S0 ?_;conv=>whnf|refine Vo ?_|exact T0
  ·intro i ⟨hi,he⟩
   repeat' first|refine S0 ?_;conv=>whnf|refine Vo ?_|exact T0|refine W6 ?_|(refine Br.d (fun h=>?_) fun h=>?_)|refine Br.bnot ?_|refine T2 ?_ ?_
   all_goals try simp only [tnc] at *
   ·refine Again.by (i+1) ⟨⟨by omega,fun j hj=>?_⟩,by omega⟩ ?_
    ·by_cases e:j=i
     ·subst e;exact cq_ext h
     ·exact he j (by omega)
    ·repeat' first|refine S0 ?_;conv=>whnf|refine Vo ?_|exact T0
   ·exact (decide_eq_false fun e=>h (by rw [e];exact cq_sec rfl)).symm
   ·exact (decide_eq_true (list_ext_getD (z:=Cq.z) hlm fun j hj=>he j (by omega))).symm
 ·exact (decide_eq_false fun e=>h (by rw [e])).symm
def cplL (p:List Rf) (s:List Dz):List Cq:=(s.filter fun d=>!d.s && (decide (d.a ∈ p) && decide (d.b ∈ p))).map fun d=>(d.a,d.b)
def wth (p:List Rf) (s:List Dz):List Cq:=cptQ (srtQ (cplL p s)) (srtQ (cplL p s)).length
theorem mem_wth {p:List Rf} {s:List Dz} {x:Cq}:x ∈ wth p s ↔ x ∈ cplL p s:=by
 unfold wth;rw [cptQ_mem _ _ (Nat.le_refl _),List.take_length,(srtQ_perm _).mem_iff]
theorem mem_cpl {p:List Rf} {s:List Dz} {a b:Rf}:(a,b) ∈ cplL p s ↔ a ∈ p/\b ∈ p/\aprt s a b=true:=by
 unfold cplL aprt;simp only [List.mem_map,List.mem_filter,List.any_eq_true,bat,Bool.not_eq_true',decide_eq_true_eq,Prod.mk.injEq];constructor
 ·rintro ⟨d,⟨h1,h2,h3,h4⟩,rfl,rfl⟩
  exact ⟨h3,h4,d,h1,⟨h2,rfl⟩,rfl⟩
 ·rintro ⟨h1,h2,d,h3,⟨h4,rfl⟩,rfl⟩
  exact ⟨d,⟨h3,h4,h1,h2⟩,rfl,rfl⟩
theorem wth_bars {p:List Rf} {s t:List Dz} (h:wth p s=wth p t):∀ a ∈ p,∀ b ∈ p,barB s a b=barB t a b:=by
 have key:∀ a ∈ p,∀ b ∈ p,aprt s a b=aprt t a b:=fun a ha b hb=>by
  rw [Bool.eq_iff_iff]
  have h1:(a,b) ∈ cplL p s ↔ (a,b) ∈ cplL p t:=by rw [<-mem_wth,h,mem_wth]
  rw [mem_cpl,mem_cpl] at h1;exact ⟨fun e=>(h1.1 ⟨ha,hb,e⟩).2.2,fun e=>(h1.2 ⟨ha,hb,e⟩).2.2⟩
 intro a ha b hb;unfold barB;rw [key a ha b hb,key b hb a ha]
theorem cpl_step (p:List Rf) (s:List Dz) (i:Nat) (h:i<s.length):cplL p (s.take (i+1))=if (!(s.getD i Dz.z).s && (decide ((s.getD i Dz.z).a ∈ p) && decide ((s.getD i Dz.z).b ∈ p)))=true then cplL p (s.take i) ++ [((s.getD i Dz.z).a,(s.getD i Dz.z).b)] else cplL p (s.take i):=by
 unfold cplL;rw [take1 s Dz.z i h,List.filter_append];split
 ·rename_i e;rw [show [s.getD i Dz.z].filter (fun d:Dz=>!d.s && (decide (d.a ∈ p) && decide (d.b ∈ p))) = [s.getD i Dz.z] from List.filter_cons_of_pos (p:=fun d:Dz=>!d.s && (decide (d.a ∈ p) && decide (d.b ∈ p))) e,List.map_append];rfl
 ·rename_i e;rw [show [s.getD i Dz.z].filter (fun d:Dz=>!d.s && (decide (d.a ∈ p) && decide (d.b ∈ p))) = [] from List.filter_cons_of_neg (p:=fun d:Dz=>!d.s && (decide (d.a ∈ p) && decide (d.b ∈ p))) e,List.append_nil]
theorem cpl_len (p:List Rf) (s:List Dz):(cplL p s).length<=s.length:=by
 unfold cplL;rw [List.length_map];exact List.length_filter_le _ _
end Kx
open Go Sx Go.Proofs
namespace Kx
theorem within_ct (p:List Rf) (s:List Dz) (hp:p.length<=1000) (hs:s.length<=4096):Cr 84 [rfs p,des s] (cqs (wth p s)):=by
 refine .det (De Tryz.func84 [] [] ?_)
 repeat' first|refine S0 ?_;conv=>whnf
 refine Lw [] [] (α:=Nat) (fun i=>[(0,rfs p),(5,.own 0),(8,des s),(9,i64 s.length),(10,i64 i)]) (fun i=>[(0,.arr 176 4 (cplL p (s.take i)).length fun j=>Cq.f ((cplL p (s.take i)).getD j Cq.z))]) 1 (fun i=>i<=s.length) (fun i=>s.length - i) ?_ ?_
 ·refine Again.by 0 (zle _) ?_
  repeat' first|refine S0 ?_;conv=>whnf|refine Vo ?_|exact T0|(rfl)|refine Vm ?_ ?_
 ·intro i hi;have hl:=cpl_len p (s.take i);rw [List.length_take] at hl;by_cases hlt:i<s.length
  ·have hst:=cpl_step p s i hlt
   repeat' first|refine S0 ?_;conv=>whnf|refine Vo ?_|refine Vb ?_|refine W6 ?_|refine B1 ?_|(refine Br.d (fun h=>?_) fun h=>?_)|refine Br.bnot ?_|(refine Bm (fun h=>?_) fun h=>?_)|refine K0 ?_|(refine M0 (g:=41) (rcontains_ct _ _ (by omega)) ?_)
   all_goals simp only [tnc] at *
   ·refine Again.by (i+1) ⟨by omega,by omega⟩ ?_
    rw [hst.trans (if_neg (by simp [-List.getD_eq_getElem?_getD,h]))]
    repeat' first|refine S0 ?_;conv=>whnf|refine Vo ?_|exact T0
   ·refine Again.by (i+1) ⟨by omega,by omega⟩ ?_
    rw [hst.trans (if_pos (by simp [-List.getD_eq_getElem?_getD, *]))]
    repeat' first|refine S0 ?_;conv=>whnf|refine Vo ?_|exact T0|refine Vm ?_ ?_
    all_goals exact app1 Cq.f Cq.z ite_cq _ (_,_)
   ·refine Again.by (i+1) ⟨by omega,by omega⟩ ?_
    rw [hst.trans (if_neg (by simp [-List.getD_eq_getElem?_getD,h]))]
    repeat' first|refine S0 ?_;conv=>whnf|refine Vo ?_|exact T0
   ·refine Again.by (i+1) ⟨by omega,by omega⟩ ?_
    rw [hst.trans (if_neg (by simp [-List.getD_eq_getElem?_getD,h]))]
    repeat' first|refine S0 ?_;conv=>whnf|refine Vo ?_|exact T0
  ·obtain rfl:i=s.length:=by omega
   rw [List.take_length] at *
   have hsl:(srtQ (cplL p s)).length<=1000000:=by rw [srtQ_len];omega
   repeat' first|(refine CallOK.sortG encQ 4 (by decide) (fun _=>rfl) Cq.z (cplL p s) (srtQ (cplL p s)) ⟨Tryz.f136,Tryz.func136,by decide,by decide⟩ rfl ⟨rfl,fun _ _=>rfl⟩ (srtQ_len _) (fun _ p cap w=>sortQ_none p cap w) (fun _ blk cap w hH hb=>sortQ_law _ (by omega) blk cap w hH hb) ?_)|refine S0 ?_;conv=>whnf|exact T0|refine B0 ?_|refine T2 ?_ ?_|(refine CallOK.gv (g:=138) (Step.out ?_))|(refine M0 (g:=138) (compactq_ct _ (by assumption)) ?_)
   all_goals exact ⟨rfl,fun _ _=>rfl⟩
end Kx
open Go Sx Go.Proofs
namespace Kx
theorem ImpD.tab {sz n:Nat} {f g:Nat->List D} (he:∀ i,i<n->f i=g i):ImpD (.tab sz n f) (.tab sz n g):=fun M v h=>by
 simp only [Rd] at h ⊢;obtain ⟨a,cap,rfl,hn,h⟩:=h;exact ⟨a,cap,rfl,hn,fun i hi=>by rw [<-he i hi];exact h i hi⟩
theorem dput_le (l:List (List Int × D)) (k:List Int) {d e:D} (h:ImpD d e):MpdLe (dput l k d) (dput l k e):=by
 unfold dput;split
 ·refine ⟨by simp,fun i x y hx hy=>?_⟩
  rcases Nat.lt_or_ge i l.length with hi | hi
  ·rw [List.getElem?_append_left hi] at hx hy;rw [hx] at hy;cases hy;exact ⟨rfl,.refl _⟩
  ·rw [List.getElem?_append_right hi] at hx hy
   cases hj:i - l.length with
   | zero=>rw [hj] at hx hy;simp at hx hy;subst hx;subst hy;exact ⟨rfl,h⟩
   | succ n=>rw [hj] at hx;simp at hx
 ·rename_i p _;refine ⟨by simp,fun i x y hx hy=>?_⟩;rw [List.getElem?_modify] at hx hy
  cases hl:l[i]? with
  | none=>rw [hl] at hx;simp at hx
  | some z =>
    rw [hl] at hx hy;by_cases e:p.1=i
    ·simp [e] at hx hy;subst hx;subst hy;exact ⟨rfl,h⟩
    ·simp [e] at hx hy;subst hx;subst hy;exact ⟨rfl,.refl _⟩
def grM (R:List Rf) (S:Rf->List Rf):List (List Int × D):=mapD R fun x=>rfs (S x)
theorem gget {R:List Rf} {S:Rf->List Rf} {r:Rf} (h:r ∈ R):dget (grM R S) (rk r)=some (rfs (S r)):=dget_in (F:=fun x=>rfs (S x)) h
theorem gput {R:List Rf} {S:Rf->List Rf} {r:Rf} (hn:R.Nodup) (h:r ∈ R) (q:List Rf):dput (grM R S) (rk r) (rfs q)=grM R fun x=>if x=r then q else S x:=by
 rw [grM,dput_in hn h]
 congr 1
 funext x
 show (if x=r then rfs q else rfs (S x))=rfs (if x=r then q else S x)
 split<;>rfl
theorem take_out {R:List Rf} (hn:R.Nodup) (i:Nat) (h:i<R.length):R.getD i Rf.z ∉ R.take i:=fun hm=>by
 obtain ⟨j,hj⟩:=List.mem_iff_getElem?.1 hm
 have hji:j<i:=by
  have:=(List.getElem?_eq_some_iff.1 hj).1;rw [List.length_take] at this;omega
 rw [List.getElem?_take,if_pos hji] at hj
 have h2:R[i]? = some (R.getD i Rf.z):=by rw [gDe,List.getElem?_eq_getElem h];rfl
 have:=(List.getElem?_inj (by omega) hn).1 (hj.trans h2.symm);omega
theorem gr_new {R:List Rf} (hn:R.Nodup) (i:Nat) (h:i<R.length):dput (grM (R.take i) fun r=>[r]) (rk (R.getD i Rf.z)) (rfs [R.getD i Rf.z])=grM (R.take (i+1)) fun r=>[r]:=by
 rw [grM,dput_out (take_out hn i h),grM,take1 R Rf.z i h,mapD,mapD,List.map_append];rfl
def midS (S:Rf->List Rf) (q:List Rf) (j:Nat):Rf->List Rf:=fun r=>if r ∈ q.take j then q else S r
theorem midS_step (S:Rf->List Rf) (q:List Rf) (j:Nat) (h:j<q.length):(fun x=>if x=q.getD j Rf.z then q else midS S q j x)=midS S q (j+1):=by
 funext x
 unfold midS;rw [take1 q Rf.z j h];by_cases e:x=q.getD j Rf.z
 ·rw [if_pos e,if_pos (by rw [e];simp)]
 ·rw [if_neg e];by_cases e2:x ∈ q.take j
  ·rw [if_pos e2,if_pos (List.mem_append_left _ e2)]
  ·rw [if_neg e2,if_neg (fun h=>(List.mem_append.1 h).elim e2 fun h=>e (List.mem_singleton.1 h))]
theorem midS_zero (S:Rf->List Rf) (q:List Rf):midS S q 0=S:=by funext x;simp [midS]
theorem midS_all (S:Rf->List Rf) (q:List Rf):midS S q q.length=fun r=>if r ∈ q then q else S r:=by funext x;simp [midS]
theorem bcloneO_ct (l:List Bd) (h0:l.length<=1000000):Cr 39 [bds l] (bdsO l):=by
 refine .det (De Tryz.func39 [] [] ?_)
 repeat' first|refine S0 ?_;conv=>whnf|refine Vb ?_|(refine NilB.mk fun b hb=>Step.out ?_)|exact T0|(refine Bm (fun h=>?_) fun h=>?_)|refine T2 ?_ ?_
 all_goals first
  | trivial
  | exact hb h
  | with_reducible rfl
  | with_reducible exact same_rfl
  | omega
  | (exact ⟨by omega,fun i hi=>rfl⟩)
theorem concat2_ct (p q:List Rf) (hp:p.length<=100) (hq:q.length<=100):Cr 131 [.tab 1 2 fun i=>selC [[rfs p],[rfs q]] i] (rfs (p ++ q)):=by
 have h:=concat_ct [p,q] (by simp) (by simp;omega);rw [show [p,q].flatten=p ++ q by simp] at h;refine h.arg ⟨rfl,⟨rfl,fun i hi=>?_⟩,trivial⟩
 match i,hi with
 | 0,_=>rfl| 1,_=>rfl
theorem pick_step (S:Rf->List Rf) (R:List Rf) (i:Nat) (h:i<R.length):(R.take (i+1)).filterMap (pick S)=if 1<(setR (S (R.getD i Rf.z))).length/\hdR (setR (S (R.getD i Rf.z)))=R.getD i Rf.z then (R.take i).filterMap (pick S) ++ [setR (S (R.getD i Rf.z))] else (R.take i).filterMap (pick S):=by
 rw [take1 R Rf.z i h,List.filterMap_append];split
 ·rename_i e
  have h2:pick S (R.getD i Rf.z)=some (setR (S (R.getD i Rf.z))):=by unfold pick;rw [if_pos e]
  rw [List.filterMap_cons,h2];rfl
 ·rename_i e
  have h2:pick S (R.getD i Rf.z)=none:=by unfold pick;rw [if_neg e]
  rw [List.filterMap_cons,h2];exact List.append_nil _
theorem one_imp (r:Rf) (f:Nat->List D) (hf:f 0=Rf.f r):ImpD (.tab 2 1 f) (rfs [r]):=ImpD.tab fun i hi=>by
 obtain rfl:i=0:=by omega
 exact hf
theorem gr_step {R:List Rf} (hn:R.Nodup) (i:Nat) (h:i<R.length) {f:Nat->List D} (hf:f 0=Rf.f (R.getD i Rf.z)):MpdLe (dput (grM (R.take i) fun r=>[r]) (rk (R.getD i Rf.z)) (.tab 2 1 f)) (grM (R.take (i+1)) fun r=>[r]):=by
 rw [<-gr_new hn i h];exact dput_le _ _ (one_imp _ _ hf)
structure Grd (bars:Rf->Rf->Bool) (R:List Rf) (T:List Bd) (S:Nat->Rf->List Rf):Prop where
 z:S 0=fun r=>[r]
 s:∀ i,i<T.length->S (i+1)=gstep bars (S i) (T.getD i Bd.z)
 m:∀ i r,r ∈ R->r ∈ S i r/\(∀ x ∈ S i r,x ∈ R)/\(S i r).Nodup/\(S i r).length<=24
 e:∀ b ∈ T,b.a ∈ R/\b.b ∈ R
theorem grd_of (bars:Rf->Rf->Bool) (hsym:∀ x y,bars x y=bars y x) (B:List Bd) (hB:BdV B):Grd bars (refsL B) (stab B) fun i=>grdS bars ((stab B).take i):=by
 have hinv:∀ i,GInv bars B (grdS bars ((stab B).take i)):=fun i=>grdS_inv hsym fun b hb=>stab_in B b (List.mem_of_mem_take hb)
 refine ⟨rfl,fun i hi=>?_,fun i r hr=>⟨(hinv i).self r hr,(hinv i).sub r hr,(hinv i).nd r hr,?_⟩,fun b hb=>⟨refsL_a (stab_in B b hb),refsL_b (stab_in B b hb)⟩⟩
 ·rw [take1 (stab B) Bd.z i hi,grdS,List.foldl_append];rfl
 ·have:=nodup_len ((hinv i).nd r hr) ((hinv i).sub r hr);have:=hB.len;omega
theorem gr2i_any (bars:Rf->Rf->Bool) (S:Rf->List Rf) (b:Bd):gstep bars S b=if (decide (b.b ∈ S b.a) || (S b.a).any fun r=>(S b.b).any fun o=>bars r o)=true then S else fun r=>if r ∈ S b.a ++ S b.b then S b.a ++ S b.b else S r:=by
 unfold gstep;by_cases h:b.b ∈ S b.a
 ·rw [if_pos (.inl h),decide_eq_true h,Bool.true_or,if_pos rfl]
 ·rw [decide_eq_false h,Bool.false_or];by_cases h2:((S b.a).any fun r=>(S b.b).any fun o=>bars r o)=true
  ·rw [if_pos (.inr h2),if_pos h2]
  ·rw [if_neg (fun e=>e.elim h h2),if_neg h2]
set_option maxHeartbeats 4000000 in
theorem greedy_ct (l:List Bd) (s:List Dz) (B:List Bd) (hB:BdV B):Cr 77 [rul l s,bds B] (rss (greedyL stab (barB s) B)):=by
 have hn:=hB.n;have hR:=(refsL_asc B).nodup;have hRl:=hB.len;have hcr:=refs_ct B hn;have hcl:=bcloneO_ct B (by omega);have hso:=sortStable_ct B (by omega);have hG:=grd_of (barB s) (barB_symm s) B hB;have hTl:(stab B).length=B.length:=(stab_same B).1
 have hend:greedyL stab (barB s) B=(refsL B).filterMap (pick (grdS (barB s) ((stab B).take (stab B).length))):=by rw [List.take_length];rfl
 rw [hend];clear hend;generalize stab B=T at *;generalize refsL B=R at *;obtain ⟨S,hS⟩:∃ S:Nat->Rf->List Rf,(fun i=>grdS (barB s) (T.take i))=S:=⟨_,rfl⟩;rw [hS] at hG;have hS2:grdS (barB s) (T.take T.length)=S T.length:=congrFun hS T.length;rw [hS2];clear hS hS2;refine .det (De Tryz.func77 ord77 [12] ?_)
 repeat' first|refine S0 ?_;conv=>whnf|(refine M0 hcr ?_)|refine K0 ?_
 refine Lw ord77 [] (α:=Nat) (fun i=>[(1,bds B),(2,.loc 3 0),(5,.mref 0),(22,.own 1),(23,i64 R.length),(24,i64 i)]) (fun i=>[(3,.var [bds l,.mapb (mpB (apL s))]),(0,.mpd true 2 (grM (R.take i) fun r=>[r])),(1,.arr 102 2 R.length fun j=>Rf.f (R.getD j Rf.z))]) 4 (fun i=>i<=R.length) (fun i=>R.length - i) ?_ ?_
 ·refine Again.by 0 (zle _) ?_
  repeat' first|refine S0 ?_;conv=>whnf|refine Vo ?_|exact T0|(exact MpdLe.of_eq rfl)|refine Vm ?_ ?_
 ·intro i hi;by_cases hlt:i<R.length
  ·repeat' first|refine S0 ?_;conv=>whnf|refine Vo ?_|refine W6 ?_|refine B1 ?_
   refine Again.by (i+1) ⟨by omega,by omega⟩ ?_
   repeat' first|refine S0 ?_;conv=>whnf|refine Vo ?_|exact T0|(exact gr_step hR i hlt rfl)|refine Vm ?_ ?_
  ·obtain rfl:i=R.length:=by omega
   rw [List.take_length]
   repeat' first|(refine CallOK.ioL1 (g:=127) (Step.out ?_))|refine S0 ?_;conv=>whnf|refine B0 ?_|(refine M0 hcl ?_)|(refine M0 hso ?_)|refine K0 ?_
   refine Lw ord77 [12] (α:=Nat) (fun i=>[(1,bds B),(2,.loc 2 0),(5,.mref 0),(37,.own 1),(38,i64 T.length),(39,i64 i)]) (fun i=>[(2,.var [bds l,.mapb (mpB (apL s))]),(0,.mpd true 2 (grM R (S i))),(1,.arr 119 5 T.length fun j=>Bd.f (T.getD j Bd.z))]) 3 (fun i=>i<=T.length) (fun i=>T.length - i) ?_ ?_
   ·refine Again.by 0 (zle _) ?_
    rw [hG.z]
    repeat' first|refine S0 ?_;conv=>whnf|refine Vo ?_|exact T0|(exact MpdLe.of_eq rfl)|refine Vm ?_ ?_
   ·intro i hi;by_cases hlt:i<T.length
    ·have hab:=hG.e _ (getD_mem (z:=Bd.z) hlt);have ha:=hab.1;have hb:=hab.2;have hSa:=hG.m i _ ha;have hSb:=hG.m i _ hb;have hst:=(hG.s i hlt).trans (gr2i_any _ _ _)
     repeat' first|refine S0 ?_;conv=>whnf|refine Vo ?_|refine B1 ?_
     refine Cw ord77 [] (α:=Unit) (fun u=>[(1,bds B),(2,.loc 2 0),(5,.mref 0),(10,.loc 3 0),(11,rfs (S i (T.getD i Bd.z).a)),(12,.loc 4 0),(37,.own 1),(38,i64 T.length),(39,i64 i)]) (fun u=>[(2,.var [bds l,.mapb (mpB (apL s))]),(0,.mpd true 2 (grM R (S i))),(1,.arr 119 5 T.length fun j=>Bd.f (T.getD j Bd.z)),(3,.var (Bd.f (T.getD i Bd.z))),(4,.var [rfs (S i (T.getD i Bd.z).b)])]) 5 (fun u=>True) ?_ ?_
     ·repeat' first|refine S0 ?_;conv=>whnf|exact T0|(refine Lf.by (some (rfs (S i (T.getD i Bd.z).a))) (gget ha) ?_)|(refine Lf.by (some (rfs (S i (T.getD i Bd.z).b))) (gget hb) ?_)|refine T2 ?_ ?_
      all_goals
       refine Again.by () trivial ?_
       repeat' first|refine S0 ?_;conv=>whnf|refine Vo ?_|exact T0|(rfl)|(exact MpdLe.of_eq rfl)|refine Vm ?_ ?_
     ·intro _ _;generalize T.getD i Bd.z=b at *;have hl1:(S i b.a).length<=24:=hSa.2.2.2;have hl2:(S i b.b).length<=24:=hSb.2.2.2
      have hc2:=conR_ct (S i b.a) 129 [.ref [rfs (S i b.b)],.ref [bds l,.mapb (mpB (apL s))]] (fun x=>(S i b.b).any fun o=>barB s x o) (by omega) rfl fun x _=>(gr2_ct l s (S i b.b) x (by omega)).mono fun _ _ h=>h.1
      have hcc:=concat2_ct (S i b.a) (S i b.b) (by omega) (by omega)
      repeat' first|(refine CallOK.ctF (g:=131) (Step.out ?_))|refine S0 ?_;conv=>whnf|exact noSh_bool _|refine W6 ?_|(refine M0 hc2 ?_)|(refine M0 hcc ?_)|(refine Br.d (fun h=>?_) fun h=>?_)|refine Br.swap ?_|(refine Bm (fun h=>?_) fun h=>?_)|refine K0 ?_|(refine M0 (g:=41) (rcontains_ct _ _ (by omega)) ?_)|refine Vm ?_ ?_
      ·rw [decide_eq_true h,Bool.true_or,if_pos rfl] at hst
       refine Again.by (i+1) ⟨by omega,by omega⟩ ?_
       rw [hst]
       repeat' first|refine S0 ?_;conv=>whnf|refine Vo ?_|exact T0|(exact MpdLe.of_eq rfl)|refine Vm ?_ ?_
      ·rw [h,Bool.or_true,if_pos rfl] at hst
       refine Again.by (i+1) ⟨by omega,by omega⟩ ?_
       rw [hst]
       repeat' first|refine S0 ?_;conv=>whnf|refine Vo ?_|exact T0|(exact MpdLe.of_eq rfl)|refine Vm ?_ ?_
      ·rename_i h1;rw [decide_eq_false h1,Bool.false_or,h,if_neg Bool.false_ne_true] at hst
       have hqm:∀ x ∈ S i b.a ++ S i b.b,x ∈ R:=fun x hx=>(List.mem_append.1 hx).elim (hSa.2.1 x) (hSb.2.1 x)
       have hql:(S i b.a ++ S i b.b).length<=48:=by rw [lap];omega
       generalize S i b.a ++ S i b.b=q at *;refine Lw ord77 [] (α:=Nat) (fun j=>[(1,bds B),(2,.loc 2 0),(5,.mref 0),(13,rfs q),(37,.own 1),(38,i64 T.length),(39,i64 i),(64,rfs q),(65,i64 q.length),(66,i64 j)]) (fun j=>[(2,.var [bds l,.mapb (mpB (apL s))]),(0,.mpd true 2 (grM R (midS (S i) q j))),(1,.arr 119 5 T.length fun j=>Bd.f (T.getD j Bd.z))]) 3 (fun j=>j<=q.length) (fun j=>q.length - j) ?_ ?_
       ·refine Again.by 0 (zle _) ?_
        rw [midS_zero]
        repeat' first|refine S0 ?_;conv=>whnf|refine Vo ?_|exact T0|(exact MpdLe.of_eq rfl)|refine Vm ?_ ?_
       ·intro j hj;by_cases hjl:j<q.length
        ·have hjm:=hqm _ (getD_mem (z:=Rf.z) hjl)
         repeat' first|refine S0 ?_;conv=>whnf|refine Vo ?_|refine W6 ?_|refine B1 ?_
         refine Again.by (j+1) ⟨by omega,by omega⟩ ?_
         repeat' first|refine S0 ?_;conv=>whnf|refine Vo ?_|exact T0|(exact MpdLe.of_eq ((gput hR hjm q).trans (congrArg (grM R) (midS_step (S i) q j hjl))))|refine Vm ?_ ?_
        ·obtain rfl:j=q.length:=by omega
         repeat' first|refine S0 ?_;conv=>whnf|refine W6 ?_|refine B0 ?_
         refine Again.by (i+1) ⟨by omega,by omega⟩ ?_
         rw [hst,<-midS_all]
         repeat' first|refine S0 ?_;conv=>whnf|refine Vo ?_|exact T0|(exact MpdLe.of_eq rfl)|refine Vm ?_ ?_
    ·obtain rfl:i=T.length:=by omega
     have hZm:=fun r hr=>hG.m T.length r hr
     generalize S T.length=Z at *
     repeat' first|refine S0 ?_;conv=>whnf|refine B0 ?_|(refine M0 hcr ?_)|refine K0 ?_
     refine Lw ord77 [] (α:=Nat) (fun i=>[(5,.mref 0),(16,.own 2),(76,.own 1),(77,i64 R.length),(78,i64 i)]) (fun i=>[(0,.mpd true 2 (grM R Z)),(1,.arr 102 2 R.length fun j=>Rf.f (R.getD j Rf.z)),(2,.arr 128 1 ((R.take i).filterMap (pick Z)).length fun j=>[rfs (((R.take i).filterMap (pick Z)).getD j [])])]) 3 (fun i=>i<=R.length) (fun i=>R.length - i) ?_ ?_
     ·refine Again.by 0 (zle _) ?_
      repeat' first|refine S0 ?_;conv=>whnf|refine Vo ?_|exact T0|(rfl)|(exact MpdLe.of_eq rfl)|refine Vm ?_ ?_
     ·intro i hi;by_cases hil:i<R.length
      ·have hr:=getD_mem (z:=Rf.z) hil;obtain ⟨hz1,hz2,hz3,hz4⟩:=hZm _ hr;have hsf:=sortedf_ct (Z (R.getD i Rf.z)) (List.length_pos_of_mem hz1) (by omega);rw [srt_set hz3] at hsf;have hpl:((R.take i).filterMap (pick Z)).length<=24:=Nat.le_trans (List.length_filterMap_le _ _) (by rw [List.length_take];omega);have hpk:=pick_step Z R i hil;have hvl:=values_ct (Z (R.getD i Rf.z))
       have hsl:(setR (Z (R.getD i Rf.z))).length<=24:=by rw [<-srt_set hz3,srtR_len];exact hz4
       generalize hP:setR (Z (R.getD i Rf.z))=P at *
       repeat' first|refine S0 ?_;conv=>whnf|refine Vo ?_|refine Vb ?_|refine W6 ?_|refine B1 ?_|(refine Lf.by (some (rfs (Z (R.getD i Rf.z)))) (gget hr) ?_)|(refine M0 hvl ?_)|(refine M0 hsf ?_)|(refine Br.d (fun h=>?_) fun h=>?_)|refine K0 ?_
       ·refine Again.by (i+1) ⟨by omega,by omega⟩ ?_
        rw [hpk.trans (if_pos ⟨by omega,rf_ext h.1 h.2⟩)]
        repeat' first|refine S0 ?_;conv=>whnf|refine Vo ?_|exact T0|(exact MpdLe.of_eq rfl)|refine Vm ?_ ?_
        all_goals exact app1 (fun x:List Rf=>[rfs x]) [] ite_rfs1 _ _
       ·refine Again.by (i+1) ⟨by omega,by omega⟩ ?_
        rw [hpk.trans (if_neg fun e=>h ⟨congrArg Rf.g e.2,congrArg Rf.i e.2⟩)]
        repeat' first|refine S0 ?_;conv=>whnf|refine Vo ?_|exact T0|(exact MpdLe.of_eq rfl)|refine Vm ?_ ?_
       ·refine Again.by (i+1) ⟨by omega,by omega⟩ ?_
        rw [hpk.trans (if_neg fun e=>by have:=e.1;omega)]
        repeat' first|refine S0 ?_;conv=>whnf|refine Vo ?_|exact T0|(exact MpdLe.of_eq rfl)|refine Vm ?_ ?_
      ·obtain rfl:i=R.length:=by omega
       rw [List.take_length]
       repeat' first|refine S0 ?_;conv=>whnf|exact T0|exact T1|refine B0 ?_|refine T2 ?_ ?_
       all_goals exact ⟨rfl,fun _ _=>rfl⟩
end Kx
