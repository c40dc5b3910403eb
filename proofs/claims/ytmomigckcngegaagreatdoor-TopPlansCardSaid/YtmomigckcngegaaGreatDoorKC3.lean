/-
  What a plan misses.
  No condition beyond those written in each theorem.
-/
import Derived.Test.YtmomigckcngegaaGreatDoorKC2
import Derived.WalkKit
import Derived.Deep.RegionHeld2
set_option linter.unusedSimpArgs false
set_option linter.unusedVariables false
set_option maxRecDepth 4000
open Go Sx Go.Proofs
namespace Kx
structure Mst (R S:List Int) (mask acc:Int) (ra sa:Option Addr) (rc sc bR bW bS bM bX:Nat) (W:World):Prop where
 r:W.cell? ⟨bR,0,none⟩=some (.slice ra R.length rc)
 w:W.cell? ⟨bW,0,none⟩=some (.func (.func 75) #[] #[.pointer (some ⟨bR,0,none⟩),.pointer (some ⟨bW,0,none⟩),.pointer (some ⟨bS,0,none⟩),.pointer (some ⟨bM,0,none⟩),.pointer (some ⟨bX,0,none⟩)])
 s:W.cell? ⟨bS,0,none⟩=some (.slice sa S.length sc)
 m:W.cell? ⟨bM,0,none⟩=some (.int .i64 mask)
 x:W.heap[bX]? = some (.cells #[.int .i64 acc] 3 (0,0))
 re:∀ j,j<R.length→∃ b o,ra=some ⟨b,o,none⟩∧b≠bX∧W.cell? ⟨b,o+j,none⟩=some (.int .i64 (R.getD j 0))
 se:∀ j,j<S.length→∃ b o,sa=some ⟨b,o,none⟩∧b≠bX∧W.cell? ⟨b,o+j,none⟩=some (.int .i64 (S.getD j 0))
 nR:bR≠bX
 nW:bW≠bX
 nS:bS≠bX
 nM:bM≠bX
structure OnlyX (bX:Nat) (W W' : World):Prop where
 os:W'.os=W.os
 tape:W'.tape=W.tape
 output:W'.output=W.output
 size:W'.heap.size=W.heap.size
 h:∀ b,b≠bX→W'.heap[b]? = W.heap[b]?
theorem OnlyX.refl (bX:Nat) (W:World):OnlyX bX W W:=⟨rfl,rfl,rfl,rfl,fun _ _=>rfl⟩
theorem OnlyX.trans {bX:Nat} {A B C:World} (h:OnlyX bX A B) (k:OnlyX bX B C):OnlyX bX A C :=
 ⟨k.os.trans h.os,k.tape.trans h.tape,k.output.trans h.output,k.size.trans h.size,fun b hb=>(k.h b hb).trans (h.h b hb)⟩
theorem OnlyX.cell {bX:Nat} {W W' : World} (h:OnlyX bX W W') {b o:Nat} (hb:b≠bX):W'.cell? ⟨b,o,none⟩=W.cell? ⟨b,o,none⟩:=by
 simp only [World.cell?];rw [h.h b hb]
theorem cell_box {W:World} {B:Nat} {v:Value} {t:TypeId} (h:W.heap[B]? = some (.cells #[v] t (0,0))):W.cell? ⟨B,0,none⟩=some v∧W.frozen? ⟨B,0,none⟩=false:=by
 constructor<;>simp [World.cell?,World.frozen?,h]
theorem Mst.to {R S:List Int} {mask acc acc' : Int} {ra sa:Option Addr} {rc sc bR bW bS bM bX:Nat} {W W' : World} (H:Mst R S mask acc ra sa rc sc bR bW bS bM bX W) (h:OnlyX bX W W') (hx:W'.heap[bX]? = some (.cells #[.int .i64 acc'] 3 (0,0))) :
 Mst R S mask acc' ra sa rc sc bR bW bS bM bX W' :=
 ⟨(h.cell H.nR).trans H.r,(h.cell H.nW).trans H.w,(h.cell H.nS).trans H.s,(h.cell H.nM).trans H.m,hx,fun j hj=>by
   obtain ⟨b,o,h1,h2,h3⟩:=H.re j hj
   exact ⟨b,o,h1,h2,(h.cell h2).trans h3⟩,fun j hj=>by
   obtain ⟨b,o,h1,h2,h3⟩:=H.se j hj
   exact ⟨b,o,h1,h2,(h.cell h2).trans h3⟩,H.nR,H.nW,H.nS,H.nM⟩
theorem setX {bX:Nat} {W:World} {u:Value} (h:W.heap[bX]? = some (.cells #[u] 3 (0,0))) (v:Value):OnlyX bX W (W.setCell ⟨bX,0,none⟩ v)∧(W.setCell ⟨bX,0,none⟩ v).heap[bX]? = some (.cells #[v] 3 (0,0)):=by
 have e:W.setCell ⟨bX,0,none⟩ v=W.setRow bX #[v]:=by
  rw [setCell_eq_setRow W bX 0 _ 3 (0,0) _ h];rfl
 rw [e]
 exact ⟨⟨rfl,rfl,rfl,by simp [World.setRow],fun k hk=>setRow_other W bX k _ hk⟩,setRow_heap W bX _ #[v] 3 (0,0) h⟩
theorem getD_elem {S:List Int} {k:Nat} (h:k<S.length):S[k]=S.getD k 0:=by rw [List.getD_eq_getElem?_getD,List.getElem?_eq_getElem h];rfl
def blkB (S:List Int) (mask dis:Int) (k:Nat):Bool:=decide (bits .and .i64 (mask / 2 ^ k) 1=1) && (bits .and .i64 (S.getD k 0) dis == 0)
def blkN (S:List Int) (mask dis:Int):Nat→Bool
 | 0=>false
 | n+1=>blkN S mask dis n || blkB S mask dis n
theorem blkN_up {S:List Int} {mask dis:Int} {k:Nat} (h:blkB S mask dis k=true):∀ n,k<n→blkN S mask dis n=true
 | 0,h0=>by omega
 | n+1,h0=>by
   rw [blkN]
   by_cases e:k=n
   ·rw [e] at h;rw [h,Bool.or_true]
   ·rw [blkN_up h n (by omega),Bool.true_or]
def ms0 (S:List Int) (mask dis prod acc:Int):Int:=if blkN S mask dis S.length=true then acc else RowKit.wrap64 (acc+prod)
set_option maxHeartbeats 4000000 in
set_option maxRecDepth 1000000 in
theorem walk0 (R S:List Int) (mask acc dis prod:Int) (ra sa:Option Addr) (rc sc bR bW bS bM bX:Nat) (W:World) (H:Mst R S mask acc ra sa rc sc bR bW bS bM bX W) (hR:R.length≤10) (hS:S.length≤8) (hp:¬prod=0) :
 Calls Tryz.prog 75 #[.int .i64 R.length,.int .i64 dis,.int .i64 prod,.pointer (some ⟨bR,0,none⟩),.pointer (some ⟨bW,0,none⟩),.pointer (some ⟨bS,0,none⟩),.pointer (some ⟨bM,0,none⟩),.pointer (some ⟨bX,0,none⟩)] W fun e W'=>e = .returned (.tuple #[])∧Mst R S mask (ms0 S mask dis prod acc) ra sa rc sc bR bW bS bM bX W'∧OnlyX bX W W':=by
 have hr:=H.r;have hw:=H.w;have hs:=H.s;have hm:=H.m
 have hx:=(cell_box H.x).1
 have hx2:=(cell_box H.x).2
 have hp2:(prod == 0)=false:=by simpa using hp
 go_enter Tryz.func75,Tryz.ntmps75
 go_wp2
 go_loopw [47] (fun i wr=>∃ k:Nat,k≤S.length∧i = .int .i64 k∧blkN S mask dis k=false∧wr=W) (fun i _=>S.length - (Go.RowKit.intOf i).toNat)
 case atStart=>exact ⟨0,Nat.zero_le _,rfl,rfl,rfl⟩
 case round =>
  obtain ⟨k,hk,rfl,hb,rfl⟩:=hrel
  by_cases hkl:k<S.length
  ·obtain ⟨b,o,rfl,hbx,hc⟩:=H.se k hkl
   go_wp2
   ·have hbk:blkB S mask dis k=true:=by
     unfold blkB
     rw [←getD_elem hkl,Bool.and_eq_true]
     exact ⟨decide_eq_true (by assumption),by assumption⟩
    have e:ms0 S mask dis prod acc=acc:=by rw [ms0,if_pos (blkN_up hbk _ hkl)]
    rw [e]
    refine bodyPost_ret (results_none rfl _ _ _) rfl ?_
    exact ⟨rfl,H,OnlyX.refl _ _⟩
   ·have hbk:blkB S mask dis k=false:=by
     unfold blkB
     rw [←getD_elem hkl,Bool.and_eq_false_iff]
     exact .inr (by assumption)
    exact ⟨⟨k+1,by omega,by simp,by rw [blkN,hb,hbk];rfl,trivial⟩,by simp [Go.RowKit.intOf];omega⟩
   ·have hbk:blkB S mask dis k=false:=by
     unfold blkB
     rw [Bool.and_eq_false_iff]
     exact .inl (decide_eq_false (by assumption))
    exact ⟨⟨k+1,by omega,by simp,by rw [blkN,hb,hbk];rfl,trivial⟩,by simp [Go.RowKit.intOf];omega⟩
  ·have hk2:k=S.length:=by omega
   subst hk2
   go_wp2
   have e:ms0 S mask dis prod acc=RowKit.wrap64 (acc+prod):=by rw [ms0,if_neg (by rw [hb];decide)]
   rw [e]
   obtain ⟨o1,o2⟩:=setX H.x (.int .i64 (RowKit.wrap64 (acc+prod)))
   go_end0
   exact ⟨rfl,H.to o1 o2,o1⟩
end Kx
open Go Sx Go.Proofs
namespace Kx
theorem Mst.drew {R S:List Int} {mask acc:Int} {ra sa:Option Addr} {rc sc bR bW bS bM bX:Nat} {W:World} (H:Mst R S mask acc ra sa rc sc bR bW bS bM bX W):Mst R S mask acc ra sa rc sc bR bW bS bM bX W.drew :=
 ⟨H.r,H.w,H.s,H.m,H.x,H.re,H.se,H.nR,H.nW,H.nS,H.nM⟩
theorem OnlyX.drew {bX:Nat} {W W' : World} (h:OnlyX bX W.drew W'):OnlyX bX W W':=⟨h.os,h.tape,h.output,h.size,h.h⟩
set_option maxHeartbeats 4000000 in
set_option maxRecDepth 1000000 in
theorem walk1 (R S:List Int) (mask acc dis prod r a1 a2:Int) (i:Nat) (ra sa:Option Addr) (rc sc bR bW bS bM bX:Nat) (W:World) (H:Mst R S mask acc ra sa rc sc bR bW bS bM bX W) (hR:R.length≤10) (hi:i<R.length) (hr0:R.getD i 0=r) (hr1:0≤r∧r≤64) (hp:¬prod=0)
 (c1:∀ W,Mst R S mask acc ra sa rc sc bR bW bS bM bX W→Calls Tryz.prog 75 #[.int .i64 (IntKind.i64.wrap (i+1:Int)),.int .i64 dis,.int .i64 (IntKind.i64.wrap (prod*IntKind.i64.wrap (64 - r))),.pointer (some ⟨bR,0,none⟩),.pointer (some ⟨bW,0,none⟩),.pointer (some ⟨bS,0,none⟩),.pointer (some ⟨bM,0,none⟩),.pointer (some ⟨bX,0,none⟩)] W fun e W'=>e = .returned (.tuple #[])∧Mst R S mask a1 ra sa rc sc bR bW bS bM bX W'∧OnlyX bX W W')
 (c2:∀ W,Mst R S mask a1 ra sa rc sc bR bW bS bM bX W→Calls Tryz.prog 75 #[.int .i64 (IntKind.i64.wrap (i+1:Int)),.int .i64 (bits .or .i64 dis (IntKind.i64.wrap (2 ^ i))),.int .i64 (IntKind.i64.wrap (prod*r)),.pointer (some ⟨bR,0,none⟩),.pointer (some ⟨bW,0,none⟩),.pointer (some ⟨bS,0,none⟩),.pointer (some ⟨bM,0,none⟩),.pointer (some ⟨bX,0,none⟩)] W fun e W'=>e = .returned (.tuple #[])∧Mst R S mask a2 ra sa rc sc bR bW bS bM bX W'∧OnlyX bX W W') :
 Calls Tryz.prog 75 #[.int .i64 i,.int .i64 dis,.int .i64 prod,.pointer (some ⟨bR,0,none⟩),.pointer (some ⟨bW,0,none⟩),.pointer (some ⟨bS,0,none⟩),.pointer (some ⟨bM,0,none⟩),.pointer (some ⟨bX,0,none⟩)] W fun e W'=>e = .returned (.tuple #[])∧Mst R S mask a2 ra sa rc sc bR bW bS bM bX W'∧OnlyX bX W W':=by
 have hr:=H.r;have hw:=H.w
 obtain ⟨rb,ro,rfl,hrx,hc⟩:=H.re i hi
 rw [hr0] at hc
 have hp2:(prod == 0)=false:=by simpa using hp
 have mixed:=hm
 have k1:=c1 W.drew H.drew
 have k2:∀ W',Mst R S mask a1 (some ⟨rb,ro,none⟩) sa rc sc bR bW bS bM bX W'→OnlyX bX W W'→Calls Tryz.prog 75 #[.int .i64 (IntKind.i64.wrap (i+1:Int)),.int .i64 (bits .or .i64 dis (IntKind.i64.wrap (2 ^ i))),.int .i64 (IntKind.i64.wrap (prod*r)),.pointer (some ⟨bR,0,none⟩),.pointer (some ⟨bW,0,none⟩),.pointer (some ⟨bS,0,none⟩),.pointer (some ⟨bM,0,none⟩),.pointer (some ⟨bX,0,none⟩)] W'.drew fun e W'=>e = .returned (.tuple #[])∧Mst R S mask a2 (some ⟨rb,ro,none⟩) sa rc sc bR bW bS bM bX W'∧OnlyX bX W W':=fun W' m1 o1=>(c2 W'.drew m1.drew).mono fun _ _ ⟨e1,e2,e3⟩=>⟨e1,e2,o1.trans e3.drew⟩
 clear c1 c2 H hp
 go_enter Tryz.func75,Tryz.ntmps75
 go_wp2
 go_region_with_o (go_at_call 75;refine k1.mono ?_;rintro e w' ⟨rfl,m1,o1⟩)
 all_goals
  have o2:=o1.drew
  have hr2:=m1.r
  have hw2:=m1.w
  have hc2:w'.cell? ⟨rb,ro+i,none⟩=some (.int .i64 r):=(o2.cell hrx).trans hc
  have k3:=k2 w' m1 o2
  clear m1 o1 o2 k1 k2 hr hw hc
  go_wp2
  go_region_with_o (go_at_call 75;refine k3.mono ?_;rintro e w2 ⟨rfl,m2,o2⟩)
 all_goals
  clear k3
  go_wp2
  refine bodyPost_ret (results_none rfl _ _ _) rfl ?_
  exact ⟨rfl,m2,o2⟩
def msN (R S:List Int) (mask:Int):Nat→Nat→Int→Int→Int→Int
 | 0,_,dis,prod,acc=>if prod=0 then acc else ms0 S mask dis prod acc
 | n+1,i,dis,prod,acc=>if prod=0 then acc else
  msN R S mask n (i+1) (bits .or .i64 dis (IntKind.i64.wrap (2 ^ i))) (IntKind.i64.wrap (prod*R.getD i 0)) (msN R S mask n (i+1) dis (IntKind.i64.wrap (prod*IntKind.i64.wrap (64 - R.getD i 0))) acc)
theorem walkZ (R S:List Int) (mask acc dis:Int) (i:Nat) (ra sa:Option Addr) (rc sc bR bW bS bM bX:Nat) (W:World) (H:Mst R S mask acc ra sa rc sc bR bW bS bM bX W) :
 Calls Tryz.prog 75 #[.int .i64 i,.int .i64 dis,.int .i64 0,.pointer (some ⟨bR,0,none⟩),.pointer (some ⟨bW,0,none⟩),.pointer (some ⟨bS,0,none⟩),.pointer (some ⟨bM,0,none⟩),.pointer (some ⟨bX,0,none⟩)] W fun e W'=>e = .returned (.tuple #[])∧Mst R S mask acc ra sa rc sc bR bW bS bM bX W'∧OnlyX bX W W':=by
 go_enter Tryz.func75,Tryz.ntmps75
 go_wp2
 refine bodyPost_ret (results_none rfl _ _ _) rfl ?_
 exact ⟨rfl,H,OnlyX.refl _ _⟩
theorem walkN (R S:List Int) (mask:Int) (hR:R.length≤10) (hS:S.length≤8) (hb:∀ i,i<R.length→0≤R.getD i 0∧R.getD i 0≤64) (ra sa:Option Addr) (rc sc bR bW bS bM bX:Nat):∀ (n i:Nat),i+n=R.length→∀ (dis prod acc:Int) (W:World),Mst R S mask acc ra sa rc sc bR bW bS bM bX W →
 Calls Tryz.prog 75 #[.int .i64 i,.int .i64 dis,.int .i64 prod,.pointer (some ⟨bR,0,none⟩),.pointer (some ⟨bW,0,none⟩),.pointer (some ⟨bS,0,none⟩),.pointer (some ⟨bM,0,none⟩),.pointer (some ⟨bX,0,none⟩)] W fun e W'=>e = .returned (.tuple #[])∧Mst R S mask (msN R S mask n i dis prod acc) ra sa rc sc bR bW bS bM bX W'∧OnlyX bX W W'
 | 0,i,hi,dis,prod,acc,W,H=>by
   by_cases hp:prod=0
   ·subst hp;rw [msN,if_pos rfl];exact walkZ R S mask acc dis i ra sa rc sc bR bW bS bM bX W H
   ·rw [msN,if_neg hp]
    obtain rfl:i=R.length:=by omega
    exact walk0 R S mask acc dis prod ra sa rc sc bR bW bS bM bX W H hR hS hp
 | n+1,i,hi,dis,prod,acc,W,H=>by
   by_cases hp:prod=0
   ·subst hp;rw [msN,if_pos rfl];exact walkZ R S mask acc dis i ra sa rc sc bR bW bS bM bX W H
   ·rw [msN,if_neg hp]
    have e1:IntKind.i64.wrap ((i:Int)+1)=((i+1:Nat):Int):=by
     have:∀ i<10,IntKind.i64.wrap (((i:Nat):Int)+1)=((i+1:Nat):Int):=by decide +kernel
     exact this i (by omega)
    refine walk1 R S mask acc dis prod (R.getD i 0) (msN R S mask n (i+1) dis (IntKind.i64.wrap (prod*IntKind.i64.wrap (64 - R.getD i 0))) acc) _ i ra sa rc sc bR bW bS bM bX W H hR (by omega) rfl (hb i (by omega)) hp ?_ ?_
    ·intro W1 H1
     rw [e1]
     exact walkN R S mask hR hS hb ra sa rc sc bR bW bS bM bX n (i+1) (by omega) _ _ _ W1 H1
    ·intro W1 H1
     rw [e1]
     exact walkN R S mask hR hS hb ra sa rc sc bR bW bS bM bX n (i+1) (by omega) _ _ _ W1 H1
end Kx
open Go Sx Go.Proofs
namespace Kx
theorem gp_old (h:Array Obj) (a:Obj) (k:Nat) (hk:k<h.size):(h.push a)[k]? = h[k]?:=by rw [Array.getElem?_push,if_neg (by omega)]
theorem gp_new (h:Array Obj) (a:Obj):(h.push a)[h.size]? = some a:=by rw [Array.getElem?_push,if_pos rfl]
theorem push5 (h:Array Obj) (a b c d e:Obj):(((((h.push a).push b).push c).push d).push e)[h.size]? = some a∧(((((h.push a).push b).push c).push d).push e)[h.size+1]? = some b∧(((((h.push a).push b).push c).push d).push e)[h.size+1+1]? = some c ∧
 (((((h.push a).push b).push c).push d).push e)[h.size+1+1+1]? = some d∧(((((h.push a).push b).push c).push d).push e)[h.size+1+1+1+1]? = some e∧∀ k,k<h.size→(((((h.push a).push b).push c).push d).push e)[k]? = h[k]?:=by
 have n1:(h.push a).size=h.size+1:=Array.size_push ..
 have n2:((h.push a).push b).size=h.size+1+1:=by rw [Array.size_push,n1]
 have n3:(((h.push a).push b).push c).size=h.size+1+1+1:=by rw [Array.size_push,n2]
 have n4:((((h.push a).push b).push c).push d).size=h.size+1+1+1+1:=by rw [Array.size_push,n3]
 refine ⟨?_,?_,?_,?_,?_,fun k hk=>?_⟩
 ·rw [gp_old _ _ _ (by omega),gp_old _ _ _ (by omega),gp_old _ _ _ (by omega),gp_old _ _ _ (by omega),gp_new]
 ·rw [gp_old _ _ _ (by omega),gp_old _ _ _ (by omega),gp_old _ _ _ (by omega),←n1,gp_new]
 ·rw [gp_old _ _ _ (by omega),gp_old _ _ _ (by omega),←n2,gp_new]
 ·rw [gp_old _ _ _ (by omega),←n3,gp_new]
 ·rw [←n4,gp_new]
 ·rw [gp_old _ _ _ (by omega),gp_old _ _ _ (by omega),gp_old _ _ _ (by omega),gp_old _ _ _ (by omega),gp_old _ _ _ hk]
def W5 (w:World) (sv rv:Value) (mask:Int):World:=((((w.alloc (.cells #[sv] 22)).alloc (.cells #[rv] 22)).alloc (.cells #[.int .i64 mask] 3)).alloc (.cells #[.int .i64 0] 3)).alloc
 (.cells #[.func (.func 75) #[] #[.pointer (some ⟨w.heap.size+1,0,none⟩),.pointer (some ⟨w.heap.size+1+1+1+1,0,none⟩),.pointer (some ⟨w.heap.size,0,none⟩),.pointer (some ⟨w.heap.size+1+1,0,none⟩),.pointer (some ⟨w.heap.size+1+1+1,0,none⟩)]] 144)
theorem mst5 (R S:List Int) (mask:Int) (ra sa:Option Addr) (rc sc:Nat) (w:World)
 (re:∀ j,j<R.length→∃ b o,ra=some ⟨b,o,none⟩∧b<w.heap.size∧w.cell? ⟨b,o+j,none⟩=some (.int .i64 (R.getD j 0)))
 (se:∀ j,j<S.length→∃ b o,sa=some ⟨b,o,none⟩∧b<w.heap.size∧w.cell? ⟨b,o+j,none⟩=some (.int .i64 (S.getD j 0))) :
 Mst R S mask 0 ra sa rc sc (w.heap.size+1) (w.heap.size+1+1+1+1) w.heap.size (w.heap.size+1+1) (w.heap.size+1+1+1) (W5 w (.slice sa S.length sc) (.slice ra R.length rc) mask):=by
 obtain ⟨h1,h2,h3,h4,h5,h6⟩:=push5 w.heap (.cells #[.slice sa S.length sc] 22) (.cells #[.slice ra R.length rc] 22) (.cells #[.int .i64 mask] 3) (.cells #[.int .i64 0] 3)
  (.cells #[.func (.func 75) #[] #[.pointer (some ⟨w.heap.size+1,0,none⟩),.pointer (some ⟨w.heap.size+1+1+1+1,0,none⟩),.pointer (some ⟨w.heap.size,0,none⟩),.pointer (some ⟨w.heap.size+1+1,0,none⟩),.pointer (some ⟨w.heap.size+1+1+1,0,none⟩)]] 144)
 have cold:∀ b o,b<w.heap.size→(W5 w (.slice sa S.length sc) (.slice ra R.length rc) mask).cell? ⟨b,o,none⟩=w.cell? ⟨b,o,none⟩:=fun b o hb=>by
  have:(W5 w (.slice sa S.length sc) (.slice ra R.length rc) mask).heap[b]? = w.heap[b]?:=h6 b hb
  simp only [World.cell?];rw [this]
 refine ⟨(cell_box (t:=22) h2).1,(cell_box (t:=144) h5).1,(cell_box (t:=22) h1).1,(cell_box (t:=3) h3).1,h4,fun j hj=>?_,fun j hj=>?_,by omega,by omega,by omega,by omega⟩
 ·obtain ⟨b,o,e1,e2,e3⟩:=re j hj
  exact ⟨b,o,e1,by omega,(cold b _ e2).trans e3⟩
 ·obtain ⟨b,o,e1,e2,e3⟩:=se j hj
  exact ⟨b,o,e1,by omega,(cold b _ e2).trans e3⟩
set_option maxHeartbeats 4000000 in
set_option maxRecDepth 1000000 in
theorem missed_law (R S:List Int) (mask:Int) (hR:R.length≤10) (hS:S.length≤8) (hb:∀ i,i<R.length→0≤R.getD i 0∧R.getD i 0≤64) (ra sa:Option Addr) (rc sc:Nat) (w:World)
 (re:∀ j,j<R.length→∃ b o,ra=some ⟨b,o,none⟩∧b<w.heap.size∧w.cell? ⟨b,o+j,none⟩=some (.int .i64 (R.getD j 0)))
 (se:∀ j,j<S.length→∃ b o,sa=some ⟨b,o,none⟩∧b<w.heap.size∧w.cell? ⟨b,o+j,none⟩=some (.int .i64 (S.getD j 0))) :
 Calls Tryz.prog 43 #[.slice sa S.length sc,.slice ra R.length rc,.int .i64 mask] w fun e w'=>e = .returned (.int .i64 (msN R S mask R.length 0 0 1 0))∧RowKit.Below w.heap.size w w':=by
 have hmf:∀ (fn:Fn) (first cap:Array Value) (w:World),(Instr.makeFunc fn first cap).run Tryz.prog w = .ok (.func fn first cap) w:=fun _ _ _ _=>rfl
 have hsf:=fun (a:Addr) (c:Array Value) (w:World)=>run_store Tryz.prog w a (.func (.func 75) #[] c) .plain rfl
 have c0:=walkN R S mask hR hS hb ra sa rc sc _ _ _ _ _ R.length 0 (by omega) 0 1 0 _ (mst5 R S mask ra sa rc sc w re se)
 generalize msN R S mask R.length 0 0 1 0=m at *
 have hz:w.heap.size≤(W5 w (.slice sa S.length sc) (.slice ra R.length rc) mask).heap.size:=by
  simp only [W5,World.alloc,Array.size_push];omega
 have h6:=(push5 w.heap (.cells #[.slice sa S.length sc] 22) (.cells #[.slice ra R.length rc] 22) (.cells #[.int .i64 mask] 3) (.cells #[.int .i64 0] 3)
  (.cells #[.func (.func 75) #[] #[.pointer (some ⟨w.heap.size+1,0,none⟩),.pointer (some ⟨w.heap.size+1+1+1+1,0,none⟩),.pointer (some ⟨w.heap.size,0,none⟩),.pointer (some ⟨w.heap.size+1+1,0,none⟩),.pointer (some ⟨w.heap.size+1+1+1,0,none⟩)]] 144)).2.2.2.2.2
 replace c0:=c0.mono (R':=fun e W'=>e = .returned (.tuple #[])∧W'.cell? ⟨w.heap.size+1+1+1,0,none⟩=some (.int .i64 m)∧RowKit.Below w.heap.size w W') fun e W' ⟨e1,m1,o1⟩=>⟨e1,(cell_box m1.x).1,⟨o1.os,o1.tape,o1.output,by rw [o1.size];exact hz,fun k hk=>(o1.h k (by omega)).trans (h6 k hk)⟩⟩
 unfold W5 at c0
 clear re se hb h6 hz
 go_enter Tryz.func43,Tryz.ntmps43
 go_wp2_with (go_at_call 75;refine c0.mono ?_;rintro e w2 ⟨rfl,hx,hB⟩)
 go_ret
 exact ⟨rfl,hB⟩
theorem tab_slice {M:Mi} {l:List Int} {v:Value} (h:Rd M true (ints l) v) (hS:∀ b,M.S b→b<M.h.size):∃ a cap,v = .slice a l.length cap∧∀ j,j<l.length→∃ b o,a=some ⟨b,o,none⟩∧b<M.h.size∧cellAt M.h b (o+j)=some (.int .i64 (l.getD j 0)):=by
 simp only [ints,Rd] at h
 obtain ⟨a,cap,rfl,hn,hel⟩:=h
 refine ⟨a,cap,rfl,fun j hj=>?_⟩
 obtain ⟨b,o,ha,hb,vs,hl,hc,hr⟩:=hel j hj
 refine ⟨b,o,ha,hS b hb,?_⟩
 match vs,hl,hr with
 | [x],_,hr =>
   simp only [RdL,Rd] at hr
   have:=hc 0 (by simp)
   rw [Nat.add_zero,Nat.mul_one] at this
   rw [this,hr.2.1];rfl
theorem missed_ct (R S:List Int) (mask:Int) (hR:R.length≤10) (hS:S.length≤8) (hb:∀ i,i<R.length→0≤R.getD i 0∧R.getD i 0≤64):Ct Tryz.prog 43 [ints S,ints R,i64 mask] fun r outs=>r=i64 (msN R S mask R.length 0 0 1 0)∧outs = []:=by
 refine ⟨⟨Tryz.f43,Tryz.func43,by decide,by decide⟩,fun w S0 vs F hS0 hod hnd hFS=>?_⟩
 obtain ⟨x,y,z,rfl⟩:∃ x y z,vs = #[x,y,z]:=by
  match vs,hod with
  | ⟨[x,y,z]⟩,_=>exact ⟨x,y,z,rfl⟩
  | ⟨[]⟩,h=>simp [OdT] at h
  | ⟨[_]⟩,h=>simp [OdT] at h
  | ⟨[_,_]⟩,h=>simp [OdT] at h
  | ⟨_ :: _ :: _ :: _ :: _⟩,h=>simp [OdT] at h
 simp only [OdT] at hod
 obtain ⟨F1,F2,rfl,o1,F3,F4,rfl,o2,F5,F6,rfl,o3,rfl⟩:=hod
 simp only [ints,i64,Od] at o1 o2 o3
 obtain ⟨o1,rfl⟩:=o1
 obtain ⟨o2,rfl⟩:=o2
 obtain ⟨o3,rfl⟩:=o3
 simp only [Rd] at o3
 subst o3
 have hSl:∀ b,(MiS S0 w.heap).S b→b<(MiS S0 w.heap).h.size:=hS0
 obtain ⟨sa,sc,rfl,se⟩:=tab_slice o1 hSl
 obtain ⟨ra,rc,rfl,re⟩:=tab_slice o2 hSl
 refine (missed_law R S mask hR hS hb ra sa rc sc w re se).mono ?_
 rintro e w' ⟨rfl,hB⟩
 exact ⟨_,_,[],S0,[],rfl,⟨rfl,rfl⟩,⟨hB.os,hB.tape,hB.output,hB.size,fun b hb' _=>hB.block b hb',fun _ h=>h,fun _ h=>.inl h,List.nodup_nil,nofun,nofun⟩,by
  simp only [OdT,ioV,ints,i64]
  refine ⟨[],[],rfl,?_,?_⟩
  ·simp [Od,Rd]
  ·rfl⟩
end Kx
open Go Sx Go.Proofs
namespace Kx
theorem shl_i:∀ n,n≤8→IntKind.i64.wrap (1*2 ^ min n IntKind.i64.bits)=((2 ^ n:Nat):Int):=by decide +kernel
theorem Wr.eqz {k:IntKind} {z n:Int} {K:Int→Prop} (h:k.wrap z=n) (hk:Step (K n)):Wr k z K:=⟨by rw [h];exact hk.out⟩
def msW (K:List (List Cp)) (rates:List Int) (mask:Int):Int:=msN rates (setsL K) mask rates.length 0 0 1 0
theorem KrOk.ms {K:List (List Cp)} {rates:List Int} (h:KrOk K rates) (mask:Int):Ct Tryz.prog 43 [ints (setsL K),ints rates,i64 mask] fun r outs=>r=i64 (msW K rates mask)∧outs = [] :=
 missed_ct rates (setsL K) mask (by rw [h.r];exact h.a) (by simp only [setsL,List.length_map];exact h.n) fun i hi=>h.b _ (getD_in hi)
theorem pmissed_ct (K:List (List Cp)) (rates:List Int) (h:KrOk K rates) (mask:Int) (h0:0≤mask) (h1:mask<((2 ^ K.length:Nat):Int)):Ct Tryz.prog 17 [kys K,ints rates,i64 mask] fun r outs=>r = .tup [i64 (msW K rates mask),i64 0]∧outs = []:=by
 have hn:=h.n
 have hc:=plcheck_ct K rates h
 have hs:=sets_ct K (by omega) h.c
 have hms:=h.ms mask
 have hw:=shl_i K.length hn
 have hw2:IntKind.i64.wrap (1*2 ^ min ((K.length:Int)).toNat IntKind.i64.bits)=((2 ^ K.length:Nat):Int):=hw
 generalize 2 ^ K.length=N at *
 generalize msW K rates mask=x at *
 generalize setsL K=S at *
 refine .det (De Tryz.func17 [] [] ?_)
 repeat' first|(refine S0 ?_;conv=>whnf)|(refine Vo ?_)|exact T0|(refine B1 ?_)|(refine B0 ?_)|(refine Met.by hc ?_;rintro q outs ⟨rfl,rfl⟩)|(refine Met.by hs ?_;rintro q outs ⟨rfl,rfl⟩)|(refine Met.by hms ?_;rintro q outs ⟨rfl,rfl⟩)|(refine Wr.eqz hw2 ?_)|(refine Br.swap ?_)|(refine Br.bnot ?_)|(refine T2 ?_ ?_)|(refine K0 ?_)
structure Bst where
 f:Bool
 k:List Int
 p:Int
 q:Int
def BstOk (K:List (List Cp)) (rates E:List Int) (budget:Int) (i:Nat) (b:Bst):Prop :=
 (b.f=false→b.k = []∧b.p=0∧b.q=0∧∀ j,j<i→¬E.getD j 0≤budget) ∧
 (b.f=true→∃ m,m<i∧b.k=bitsN m 8∧b.p=E.getD m 0∧b.q=msW K rates m∧b.p≤budget∧∀ j:Nat,j<i→E.getD j 0≤budget→b.q≤msW K rates j)
theorem BstOk.skip {K:List (List Cp)} {rates E:List Int} {budget:Int} {i:Nat} {b:Bst} (h:BstOk K rates E budget i b) (hn:¬E.getD i 0≤budget):BstOk K rates E budget (i+1) b:=by
 refine ⟨fun hf=>?_,fun hf=>?_⟩
 ·obtain ⟨a1,a2,a3,a4⟩:=h.1 hf
  refine ⟨a1,a2,a3,fun j hj=>?_⟩
  by_cases e:j=i
  ·rw [e];exact hn
  ·exact a4 j (by omega)
 ·obtain ⟨m,a1,a2,a3,a4,a5,a6⟩:=h.2 hf
  refine ⟨m,by omega,a2,a3,a4,a5,fun j hj hx=>?_⟩
  by_cases e:j=i
  ·rw [e] at hx;exact absurd hx hn
  ·exact a6 j (by omega) hx
theorem BstOk.new {K:List (List Cp)} {rates E:List Int} {budget:Int} {i:Nat} {b:Bst} (h:BstOk K rates E budget i b) (hn:E.getD i 0≤budget) (hq:b.f=true→msW K rates i≤b.q):BstOk K rates E budget (i+1) ⟨true,bitsN i 8,E.getD i 0,msW K rates i⟩:=by
 refine ⟨nofun,fun _=>⟨i,by omega,rfl,rfl,rfl,hn,fun j hj hx=>?_⟩⟩
 by_cases e:j=i
 ·rw [e];exact Int.le_refl _
 ·cases hf:b.f with
  | false=>exact absurd hx ((h.1 hf).2.2.2 j (by omega))
  | true =>
    obtain ⟨m,a1,a2,a3,a4,a5,a6⟩:=h.2 hf
    have:=a6 j (by omega) hx
    have:=hq hf
    dsimp only;omega
theorem BstOk.keep {K:List (List Cp)} {rates E:List Int} {budget:Int} {i:Nat} {b:Bst} (h:BstOk K rates E budget i b) (hf:b.f=true) (hq:b.q≤msW K rates i):BstOk K rates E budget (i+1) b:=by
 refine ⟨fun h0=>(by rw [hf] at h0;cases h0),fun _=>?_⟩
 obtain ⟨m,a1,a2,a3,a4,a5,a6⟩:=h.2 hf
 refine ⟨m,by omega,a2,a3,a4,a5,fun j hj hx=>?_⟩
 by_cases e:j=i
 ·rw [e];exact hq
 ·exact a6 j (by omega) hx
theorem or_less {a b c d:Int}:(orI (cmpI a b) (cmpI c d)<0→a≤b)∧(¬orI (cmpI a b) (cmpI c d)<0→b≤a):=by
 unfold orI cmpI
 constructor<;>intro h<;>(repeat' split at h)<;>omega
theorem choose_ct (K:List (List Cp)) (rates E:List Int) (budget:Int) (h:KrOk K rates) (hK4:K.length≤7) (hE:E.length=2 ^ K.length) (hEb:∀ x ∈ E,0≤x∧x≤4096) (hb:0≤budget) (hb0:E.getD 0 0≤budget) :
 Ct Tryz.prog 15 [kys K,ints rates,ints E,i64 budget] fun r outs=>∃ m:Nat,(m<E.length∧E.getD m 0≤budget∧∀ j:Nat,j<E.length→E.getD j 0≤budget→msW K rates m≤msW K rates j)∧r = .tup [.agg [ints (bitsN m 8),i64 (E.getD m 0),i64 (msW K rates m)],i64 0]∧outs = []:=by
 have hn:=h.n
 have hc:=plcheck_ct K rates h
 have hs:=sets_ct K (by omega) h.c
 have hms:=h.ms
 have hw:=shl_i K.length hn
 have hw2:IntKind.i64.wrap (1*2 ^ min ((K.length:Int)).toNat IntKind.i64.bits)=((2 ^ K.length:Nat):Int):=hw
 have hp:2 ^ K.length≤128:=Nat.pow_le_pow_right (by omega) hK4
 have hp0:0<2 ^ K.length:=Nat.two_pow_pos _
 generalize 2 ^ K.length=N at *
 have hin:=in4096_ct E (by omega) hEb
 generalize setsL K=S at *
 have hpl:=fun (i:Nat) (hi:i<256) (a b:Int)=>plan_ct i a b hi
 refine .some (De Tryz.func15 ord15 [] ?_)
 repeat' first|(refine S0 ?_;conv=>whnf)|(refine Vo ?_)|(with_reducible refine Br.ff ?_)|(refine B1 ?_)|(refine B0 ?_)|(refine Met.by hc ?_;rintro q outs ⟨rfl,rfl⟩)|(refine Met.by hs ?_;rintro q outs ⟨rfl,rfl⟩)|(refine Wr.eqz hw2 ?_)|(refine Met.by hin ?_;rintro q outs ⟨rfl,rfl⟩)|(refine Br.swap ?_)|(refine Br.bnot ?_)|(refine K0 ?_)
 refine CodeOK.loopW hΓ hm ord15 [] (by kernel_rfl) (α:=Nat × Bst) (fun z=>[(1,ints rates),(3,i64 budget),(8,.loc 0 0),(11,ints S),(12,.loc 1 0),(13,.bool z.2.f),(43,ints E),(44,i64 E.length),(45,i64 z.1)]) (fun z=>[(0,.var [.nil,i64 0,i64 0]),(1,.var [ints z.2.k,i64 z.2.p,i64 z.2.q])]) 2 (fun z=>z.1≤E.length∧BstOk K rates E budget z.1 z.2) (fun z=>E.length - z.1) ?_ ?_
 ·refine Again.by (0,⟨false,[],0,0⟩) ⟨Nat.zero_le _,fun _=>⟨rfl,rfl,rfl,fun j hj=>absurd hj (Nat.not_lt_zero j)⟩,nofun⟩ ?_
  repeat' first|(refine S0 ?_;conv=>whnf)|(refine Vo ?_)|exact T0|(refine Vm ?_ ?_)
 ·intro ⟨i,⟨f,k,p,q⟩⟩ ⟨hi,hB⟩
  dsimp only at hi hB ⊢
  repeat' first|(refine S0 ?_;conv=>whnf)|(refine Vo ?_)|exact noSh_int _ _|(refine W6 ?_)|(refine Met.by (hms (i:Nat)) ?_;rintro q outs ⟨rfl,rfl⟩)|(refine Met.by (hpl i (by omega) _ _) ?_;rintro q outs ⟨rfl,rfl⟩)|(refine Br.d (fun h=>?_) fun h=>?_)|(refine Br.swap ?_)|(refine Br.bnot ?_)|(refine Bm (fun h=>?_) fun h=>?_)|(refine K0 ?_)|(refine K1 ?_)|(refine Met.by (g:=29) (or_ct _ _) ?_;rintro q outs ⟨rfl,rfl⟩)|(refine Met.by (g:=30) (compare_i _ _) ?_;rintro q outs ⟨rfl,rfl⟩)|(refine Vm ?_ ?_)
  ·have hn1:¬E.getD i 0≤budget:=Int.not_le.2 (by assumption)
   refine Again.by (i+1,⟨f,k,p,q⟩) ⟨⟨by dsimp only;omega,hB.skip hn1⟩,by dsimp only;omega⟩ ?_
   repeat' first|(refine S0 ?_;conv=>whnf)|(refine Vo ?_)|exact T0
  ·have hn1:E.getD i 0≤budget:=Int.not_lt.1 (by assumption)
   refine Again.by (i+1,⟨true,bitsN i 8,E.getD i 0,msW K rates i⟩) ⟨⟨by dsimp only;omega,hB.new hn1 fun _=>or_less.1 (by assumption)⟩,by dsimp only;omega⟩ ?_
   repeat' first|(refine S0 ?_;conv=>whnf)|(refine Vo ?_)|exact T0|(rfl)|(refine Vm ?_ ?_)
  ·refine Again.by (i+1,⟨f,k,p,q⟩) ⟨⟨by dsimp only;omega,hB.keep (by assumption) (or_less.2 (by assumption))⟩,by dsimp only;omega⟩ ?_
   repeat' first|(refine S0 ?_;conv=>whnf)|(refine Vo ?_)|exact T0
  ·have hn1:E.getD i 0≤budget:=Int.not_lt.1 (by assumption)
   have hf:f=false:=by assumption
   refine Again.by (i+1,⟨true,bitsN i 8,E.getD i 0,msW K rates i⟩) ⟨⟨by dsimp only;omega,hB.new hn1 fun h=>by rw [hf] at h;cases h⟩,by dsimp only;omega⟩ ?_
   repeat' first|(refine S0 ?_;conv=>whnf)|(refine Vo ?_)|exact T0|(rfl)|(refine Vm ?_ ?_)
  ·have hf:f=true:=by assumption
   obtain ⟨m,a1,a2,a3,a4,a5,a6⟩:=hB.2 hf
   dsimp only at a2 a3 a4 a5 a6
   subst a2 a3 a4
   refine Lf.by m ⟨by omega,a5,fun j hj hx=>a6 j (by omega) hx⟩ ?_
   repeat' first|(refine S0 ?_;conv=>whnf)|exact T0|exact T1|(refine T2 ?_ ?_)
  ·have hf:f=false:=by assumption
   exact absurd hb0 ((hB.1 hf).2.2.2 0 (by omega))
end Kx
