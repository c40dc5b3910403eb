/-
  The walk of this proof, second part: contracts, calls, regions.
  No condition beyond those written in each theorem.
-/
import Derived.Test.YtjommlbfjnifmaaGreatDoorFA
import Derived.Lib.AppendZeros
import Derived.Laws.BytesArg
import Derived.Lib.AppendStr
import Derived.Lib.UnsafeStr
import Derived.Lib.AppendZerosOnto
import Derived.Laws.CopyRow
import Derived.Lib.Overlaps
set_option linter.unusedSimpArgs false
set_option linter.unusedVariables false
set_option maxRecDepth 4000
namespace Sx
open Go
def MiS (S:Nat->Prop) (h:Array Obj):Mi:=⟨fun _=>none,fun _=>.nilFunc,0,S,h,fun _ _=>False⟩
def D.rdd:D->D
 | .ftab _ sz n f=>.tab sz n f| .foar _ sz n f=>.tab sz n f| .ffam ..=>.any| .fbox _=>.any| .fmap l=>.mapb l| .fmapd ..=>.any| .agg _=>.any| .tup _=>.any| .fn ..=>.any| d=>d
def rddL:List D->List D
 | []=>[]| d :: l=>d.rdd :: rddL l
theorem own_tab {h:Array Obj} {e sz k:Nat} {v:Value} {xs:List Value} {M:Mi} {f:Nat->List D} (H:OwnsH h e sz v k xs) (hh:M.h=h) (hS:∀ b,v.ownBlock=some b->M.S b) {im:Bool}
 (hr:∀ i,i<k->RdL M true (f i) ((xs.drop (i*sz)).take sz)):Rd M im (.tab sz k f) v:=by
 simp only [Rd]
 have hc:=fun b hb=>H.cells (b:=b) hb
 rcases H.2 with ⟨rfl,rfl⟩ | ⟨g,cap,cur,rfl,hg,hnc,_⟩
 ·exact ⟨none,0,rfl,Nat.le_refl _,fun i hi=>by omega⟩
 ·refine ⟨_,cap,rfl,hnc,fun i hi=>⟨g,0,rfl,hS g rfl,_,(arr_cells H.1 hi (hc g rfl)).1,fun j hj=>?_,hr i hi⟩⟩;rw [Nat.zero_add,hh];exact (arr_cells H.1 hi (hc g rfl)).2 j hj
theorem Od.rdd {M:Mi} {S' : Nat->Prop} (hS:∀ b,M.S b->S' b) {d:D} {v:Value} {F:List Nat} (h:Od M d v F) (hF:∀ b ∈ F,S' b):Rd (MiS S' M.h) true d.rdd v:=by
 have hle:M.Le (MiS S' M.h) true:=⟨hS,fun _ _=>rfl,by simp,by simp,by simp,by simp⟩
 cases d with
 | ftab e sz n f =>
   simp only [Od] at h;obtain ⟨⟨xs,h1,h2,_⟩,rfl⟩:=h
   exact own_tab (M:=MiS S' M.h) h1 rfl (fun b hb=>hF b (by simp [hb])) fun i hi=>RdL.mono hle _ _ (h2 i hi)
 | foar e sz n f =>
   simp only [Od] at h;obtain ⟨⟨xs,h1,h2,_⟩,rfl⟩:=h
   exact own_tab (M:=MiS S' M.h) h1 rfl (fun b hb=>hF b (by simp [hb])) fun i hi=>RdL.mono hle _ _ (h2 i hi)
 | fmap l =>
   simp only [Od] at h;obtain ⟨b,rfl,h,rfl⟩:=h;simp only [D.rdd,Rd];exact ⟨b,rfl,hF b (by simp),h⟩
 | ffam _ _ _ _ | fmapd _ _ _ _ _ | fbox _ | agg _ | tup _ | fn _ _=>simp [D.rdd,Rd]
 | _=>simp only [Od] at h;exact Rd.mono hle _ _ h.1
theorem OdL.rdd {M:Mi} {S' : Nat->Prop} (hS:∀ b,M.S b->S' b):∀ {l:List D} {vs:List Value} {F:List Nat},OdL M l vs F->(∀ b ∈ F,S' b)->RdL (MiS S' M.h) true (rddL l) vs
 | [],[],_,_,_=>by simp [rddL,RdL]
 | d :: l,v :: vs,F,h,hF=>by
   simp only [OdL] at h;obtain ⟨h1,F1,F2,rfl,h2,h3⟩:=h;simp only [rddL,RdL];exact ⟨h1,h2.rdd hS fun b hb=>hF b (List.mem_append_left _ hb),OdL.rdd hS h3 fun b hb=>hF b (List.mem_append_right _ hb)⟩
 | [],_ :: _,_,h,_=>by simp [OdL] at h
 | _ :: _,[],_,h,_=>by simp [OdL] at h
section
def lesL (f:D->List Nat->(D->List Nat->Prop)->Prop):List D->List Nat->(List D->List Nat->Prop)->Prop
 | [],us,K=>K [] us
 | d :: l,us,K=>f d us fun d us=>lesL f l us fun l us=>K (d :: l) us
def leD (sto:Nat->Box):Nat->D->List Nat->(D->List Nat->Prop)->Prop
 | 0,_,_,_=>False
 | n+1,d,us,K=>match d with
   | .own k=>match sto k with
     | .arr _ sz m f=>K (.tab sz m f) (k :: us)| .oar _ sz m f=>K (.tab sz m f) (k :: us)| .sar _ sz m f=>K (.tab sz m f) (k :: us)| .fam _ sz m f=>K (.tab sz m fun i=>rddL (f i)) (k :: us)
     | .famx _ sz m f i ds=>lesL (leD sto n) ds us fun ds us=>K (.tab sz m fun j=>match Nat.beq j i with | true=>ds | false=>rddL (f j)) (k :: us)
     | _=>False
   | .loc k off=>match sto k with
     | .var l=>lesL (leD sto n) (dropF off l) us fun l us=>K (.ref l) (k :: us)
     | _=>False
   | .agg l=>lesL (leD sto n) l us fun l us=>K (.agg l) us
   | .tup l=>lesL (leD sto n) l us fun l us=>K (.tup l) us
   | .fn f l=>lesL (leD sto n) l us fun l us=>K (.fn f l) us
   | .pel ..=>False| .rsl ..=>False| .ftab ..=>False| .fbox _=>False| .any=>K .any us| .int i x=>K (.int i x) us| .lit b=>K (.lit b) us| .bool b=>K (.bool b) us| .str b=>K (.str b) us| .nil=>K .nil us| .tab a b c=>K (.tab a b c) us| .vec k g=>Vc (∀ i,i<k->(g i).immB=true) (K (.vec k g) us)| .ref l=>K (.ref l) us| .null=>K .null us| .nilfn=>K .nilfn us| .val u=>K (.val u) us| .mapb l=>K (.mapb l) us
   | .fmap _=>False| .fmapd ..=>False| .foar ..=>False| .ffam ..=>False
   | .mref k=>match sto k with
     | .mp l=>K (.mapb l) (k :: us)| _=>False
def giD (sto:Nat->Box):Nat->D->List Nat->(D->List Nat->Prop)->Prop
 | 0,_,_,_=>False
 | n+1,d,us,K=>match d with
   | .own k=>match memN k us with
     | true=>False
     | false=>match sto k with
       | .arr e sz m f=>K (.ftab e sz m f) (k :: us)| .fam e sz m f=>K (.ffam e sz m f) (k :: us)| _=>False
   | .loc k off=>match memN k us,Nat.beq off 0 with
     | false,true=>match sto k with
       | .var l=>lesL (giD sto n) l (k :: us) fun l us=>K (.fbox l) us
       | _=>False
     | _,_=>False
   | .agg l=>lesL (giD sto n) l us fun l us=>K (.agg l) us
   | .tup l=>lesL (giD sto n) l us fun l us=>K (.tup l) us
   | .fn f l=>lesL (giD sto n) l us fun l us=>K (.fn f l) us
   | .pel ..=>False
   | .rsl k sz off ln cp=>match memN k us,Nat.beq off 0 with
     | false,true=>match sto k with
       | .blk e sz' cap kn f=>match Nat.beq sz sz' with
         | true=>Vc (cp=cap/\ln<=kn) (K (.ftab e sz ln f) (k :: us))| false=>False
       | _=>False
     | _,_=>False
   | .ftab ..=>False| .fbox _=>False| .any=>K .any us| .int i x=>K (.int i x) us| .lit b=>K (.lit b) us| .bool b=>K (.bool b) us| .str b=>K (.str b) us| .nil=>K .nil us| .tab a b c=>K (.tab a b c) us| .vec k g=>Vc (∀ i,i<k->(g i).immB=true) (K (.vec k g) us)| .ref l=>K (.ref l) us| .null=>K .null us| .nilfn=>K .nilfn us| .val u=>K (.val u) us| .mapb l=>K (.mapb l) us| .fmap _=>False| .fmapd ..=>False
   | .foar ..=>False| .ffam ..=>False
   | .mref k=>match memN k us with
     | true=>False
     | false=>match sto k with
       | .mp l=>K (.fmap l) (k :: us)| .mpd sk kn l=>K (.fmapd sk kn l.length (fun i=>(l.getD i ([],.any)).1) (fun i=>(l.getD i ([],.any)).2)) (k :: us)| _=>False
variable {Pc:Program} {c:Cx Pc} {M:Mi} {sto:Nat->Box}
def LeOK (M:Mi) (sto:Nat->Box) (ls:List Nat) (p:Mi->Prop):Prop:=∀ S',(∀ b,M.S b->S' b)->(∀ n ∈ ls,∀ b,sto n≠.dead->M.O n b->S' b)->p (MiS S' M.h)
theorem LeOK.mono {ls ls' : List Nat} {p:Mi->Prop} (h:LeOK M sto ls p) (hs:∀ n ∈ ls,n ∈ ls'):LeOK M sto ls' p:=fun S' h1 h2=>h S' h1 fun n hn=>h2 n (hs n hn)
theorem lesL_le {f:D->List Nat->(D->List Nat->Prop)->Prop}
 (hf:∀ (d:D) (v:Value) (us:List Nat) (K:D->List Nat->Prop),Rd M false d v->f d us K->∃ d' us',K d' us'/\(∀ n ∈ us,n ∈ us')/\LeOK M sto us' fun N=>Rd N true d' v) :
 ∀ (l:List D) (vs:List Value) (us:List Nat) (K:List D->List Nat->Prop),RdL M false l vs->lesL f l us K->∃ l' us',K l' us'/\(∀ n ∈ us,n ∈ us')/\LeOK M sto us' fun N=>RdL N true l' vs
 | [],[],us,K,_,hk=>⟨[],us,by simpa [lesL] using hk,fun _ h=>h,fun _ _ _=>by simp [RdL]⟩
 | d :: l,v :: vs,us,K,h,hk=>by
   simp only [RdL] at h;simp only [lesL] at hk;obtain ⟨d',u1,hk,s1,r1⟩:=hf d v us _ h.2.1 hk;obtain ⟨l',u2,hk,s2,r2⟩:=lesL_le hf l vs u1 _ h.2.2 hk;exact ⟨_,_,hk,fun n hn=>s2 n (s1 n hn),fun S' h1 h2=>by simp only [RdL];exact ⟨h.1,r1.mono s2 S' h1 h2,r2 S' h1 h2⟩⟩
 | [],_ :: _,_,_,h,_=>by simp [RdL] at h
 | _ :: _,[],_,_,h,_=>by simp [RdL] at h
theorem lesL_leT {f:D->List Nat->(D->List Nat->Prop)->Prop}
 (hf:∀ (d:D) (v:Value) (us:List Nat) (K:D->List Nat->Prop),Rd M false d v->f d us K->∃ d' us',K d' us'/\(∀ n ∈ us,n ∈ us')/\LeOK M sto us' fun N=>Rd N true d' v) :
 ∀ (l:List D) (vs:List Value) (us:List Nat) (K:List D->List Nat->Prop),RdT M false l vs->lesL f l us K->∃ l' us',K l' us'/\(∀ n ∈ us,n ∈ us')/\LeOK M sto us' fun N=>RdT N true l' vs
 | [],[],us,K,_,hk=>⟨[],us,by simpa [lesL] using hk,fun _ h=>h,fun _ _ _=>by simp [RdT]⟩
 | d :: l,v :: vs,us,K,h,hk=>by
   simp only [RdT] at h;simp only [lesL] at hk;obtain ⟨d',u1,hk,s1,r1⟩:=hf d v us _ h.1 hk;obtain ⟨l',u2,hk,s2,r2⟩:=lesL_leT hf l vs u1 _ h.2 hk;exact ⟨_,_,hk,fun n hn=>s2 n (s1 n hn),fun S' h1 h2=>by simp only [RdT];exact ⟨r1.mono s2 S' h1 h2,r2 S' h1 h2⟩⟩
 | [],_ :: _,_,_,h,_=>by simp [RdT] at h
 | _ :: _,[],_,_,h,_=>by simp [RdT] at h
theorem leD_ok (HM:Mem c M sto):∀ (n:Nat) (d:D) (v:Value) (us:List Nat) (K:D->List Nat->Prop),Rd M false d v->leD sto n d us K->∃ d' us',K d' us'/\(∀ n ∈ us,n ∈ us')/\LeOK M sto us' fun N=>Rd N true d' v
 | 0,_,_,_,_,_,hk=>by simp [leD] at hk
 | n+1,d,v,us,K,h,hk=>by
   have plain:∀ d0,d=d0->K d0 us->(Rd M true d0 v)->∃ d' us',K d' us'/\(∀ n ∈ us,n ∈ us')/\LeOK M sto us' fun N=>Rd N true d' v:=fun d0 _ hk hr =>
    ⟨d0,us,hk,fun _ h=>h,fun S' h1 _=>Rd.mono (M:=M) (M':=MiS S' M.h) ⟨h1,fun _ _=>rfl,by simp,by simp,by simp,by simp⟩ _ _ hr⟩
   simp only [leD] at hk;split at hk
   ·rename_i k;simp only [Rd] at h;obtain ⟨_,hkn,rfl,_⟩:=h;have hb:=HM.box k hkn;split at hk
    ·rename_i e sz m f hs;rw [hs] at hb;obtain ⟨xs,o1,o2,o3,o4⟩:=hb;refine ⟨_,_,hk,fun n hn=>List.mem_cons_of_mem _ hn,fun S' h1 h2=>?_⟩;simp only [Rd]
     rcases o1.2 with ⟨hnil,hn0⟩ | ⟨b,cap,cur,hg,hblk,hnc,hcm,hcs,ht⟩
     ·exact ⟨none,0,by rw [hnil,hn0],by omega,fun i hi=>by omega⟩
     ·have hρ:M.ρ k=some b:=by rw [o2,hg];rfl
      refine ⟨some ⟨b,0,none⟩,cap,hg,hnc,fun i hi=>⟨b,0,rfl,h2 k (by simp) b (by rw [hs];simp) (.inl hρ),(xs.drop (i*sz)).take sz,(arr_cells o1.1 hi (o1.cells (by rw [hg];rfl))).1,?_,RdL.mono (M:=M) (M':=MiS S' M.h) ⟨h1,fun _ _=>rfl,by simp,by simp,by simp,by simp⟩ _ _ (o3 i hi)⟩⟩;intro j hj;have:=(arr_cells o1.1 hi (o1.cells (by rw [hg];rfl))).2 j hj;rw [Nat.zero_add];exact this
    ·rename_i e sz m f hs;rw [hs] at hb;obtain ⟨xs,o1,o2,o3,o4⟩:=hb;refine ⟨_,_,hk,fun n hn=>List.mem_cons_of_mem _ hn,fun S' h1 h2=>?_⟩;simp only [Rd]
     rcases o1.2 with ⟨hnil,hn0⟩ | ⟨b,o,cap,cur,hg,hblk,hnc,hcm,hcs,ht⟩
     ·exact ⟨none,0,by rw [hnil,hn0],by omega,fun i hi=>by omega⟩
     ·have hρ:M.ρ k=some b:=by rw [o2,hg];rfl
      have hcl:=o1.cells (b:=b) (by rw [hg];rfl);rw [show hoff (M.hv k)=o by rw [hg];rfl] at hcl;refine ⟨some ⟨b,o,none⟩,cap,hg,hnc,fun i hi=>⟨b,o,rfl,h2 k (by simp) b (by rw [hs];simp) (.inl hρ),(xs.drop (i*sz)).take sz,(arr_cellsO o1.1 hi hcl).1,?_,RdL.mono (M:=M) (M':=MiS S' M.h) ⟨h1,fun _ _=>rfl,by simp,by simp,by simp,by simp⟩ _ _ (o3 i hi)⟩⟩;exact (arr_cellsO o1.1 hi hcl).2
    ·rename_i e sz m f hs;rw [hs] at hb
     rcases hb with ⟨xs,o1,o2,o3,o4⟩ | ⟨_,_,o3⟩
     ·have hks:sto k≠.dead:=by rw [hs];simp
      exact ⟨_,_,hk,fun n hn=>List.mem_cons_of_mem _ hn,fun S' h1 h2=>own_tab (M:=MiS S' M.h) o1 rfl (fun b hb=>h2 k (by simp) b hks (.inl (by rw [o2];exact hb))) fun i hi=>RdL.mono (M:=M) (M':=MiS S' M.h) ⟨h1,fun _ _=>rfl,by simp,by simp,by simp,by simp⟩ _ _ (o3 i hi)⟩
     ·exact ⟨_,_,hk,fun n hn=>List.mem_cons_of_mem _ hn,fun S' h1 h2=>Rd.mono (M:=M) (M':=MiS S' M.h) ⟨h1,fun _ _=>rfl,by simp,by simp,by simp,by simp⟩ _ _ o3⟩
    ·rename_i e sz m f hs;rw [hs] at hb;obtain ⟨xs,Fs,o1,o2,o3,o4,o5,o6,o7⟩:=hb;refine ⟨_,_,hk,fun n hn=>List.mem_cons_of_mem _ hn,fun S' h1 h2=>?_⟩
     have hks:sto k≠.dead:=by rw [hs];simp
     exact own_tab (M:=MiS S' M.h) o1 rfl (fun b hb=>h2 k (by simp) b hks (.inl (by rw [o2];exact hb))) fun i hi=>(o3 i hi).rdd h1 fun b hb=>h2 k (by simp) b hks (.inr ((o6 b).2 (rowsF_in hi hb)))
    ·rename_i e sz m f i ds hs;rw [hs] at hb;obtain ⟨xs,Fs,o1,o2,o3,o4,o5,o6,o7,o8,o9,o10⟩:=hb;obtain ⟨ds',us',hk,s1,r1⟩:=lesL_le (fun d v us K=>leD_ok HM n d v us K) _ _ us _ o10 hk;refine ⟨_,_,hk,fun n hn=>List.mem_cons_of_mem _ (s1 n hn),fun S' h1 h2=>?_⟩
     have hks:sto k≠.dead:=by rw [hs];simp
     refine own_tab (M:=MiS S' M.h) o1 rfl (fun b hb=>h2 k (by simp) b hks (.inl (by rw [o2];exact hb))) fun j hj=>?_
     by_cases e:j=i
     ·subst e;simp only [Nat.beq_refl]
      exact r1 S' h1 fun n hn=>h2 n (List.mem_cons_of_mem _ hn)
     ·have hbq:Nat.beq j i=false:=by
       cases hq:Nat.beq j i with
       | false=>rfl| true=>exact absurd (nbq hq) e
      simp only [hbq]
      exact (o3 j hj e).rdd h1 fun b hb=>h2 k (by simp) b hks (.inr ((o6 b).2 (rowsF_in hj hb)))
    ·exact hk.elim
   ·rename_i k off;simp only [Rd] at h;obtain ⟨_,hkn,b,hρ,rfl⟩:=h;have hb:=HM.box k hkn;split at hk
    ·rename_i l hs;rw [hs] at hb;obtain ⟨b',cs,ty,h1,h2,h3⟩:=hb;rw [hρ] at h1;cases h1;rw [dropF_eq] at hk;obtain ⟨l',us',hk,s1,r1⟩:=lesL_le (fun d v us K=>leD_ok HM n d v us K) _ _ us _ (h3.drop off) hk;refine ⟨_,_,hk,fun n hn=>List.mem_cons_of_mem _ (s1 n hn),fun S' e1 e2=>?_⟩;simp only [Rd];exact ⟨b,off,rfl,e2 k (by simp) b (by rw [hs];simp) (.inl hρ),cs.toList.drop off,cells_block h2 off,r1 S' e1 fun n hn=>e2 n (List.mem_cons_of_mem _ hn)⟩
    ·exact hk.elim
   ·simp only [Rd] at h;obtain ⟨cs,rfl,h⟩:=h;obtain ⟨l',us',hk,s1,r1⟩:=lesL_le (fun d v us K=>leD_ok HM n d v us K) _ _ us _ h hk;exact ⟨_,_,hk,s1,fun S' e1 e2=>by simp only [Rd];exact ⟨cs,rfl,r1 S' e1 e2⟩⟩
   ·simp only [Rd] at h;obtain ⟨cs,rfl,h⟩:=h;obtain ⟨l',us',hk,s1,r1⟩:=lesL_leT (fun d v us K=>leD_ok HM n d v us K) _ _ us _ h hk;exact ⟨_,_,hk,s1,fun S' e1 e2=>by simp only [Rd];exact ⟨cs,rfl,r1 S' e1 e2⟩⟩
   ·simp only [Rd] at h;obtain ⟨cs,rfl,h⟩:=h;obtain ⟨l',us',hk,s1,r1⟩:=lesL_le (fun d v us K=>leD_ok HM n d v us K) _ _ us _ h hk;exact ⟨_,_,hk,s1,fun S' e1 e2=>by simp only [Rd];exact ⟨cs,rfl,r1 S' e1 e2⟩⟩
   ·exact hk.elim
   ·exact hk.elim
   ·exact hk.elim
   all_goals first
    | exact hk.elim
    | exact plain _ rfl hk (Rd.immB (im:=false) rfl h)
    | exact plain _ rfl hk (by simp [Rd])
    | (rename_i k
       simp only [Rd] at h;obtain ⟨_,hkn,b,hρ,rfl⟩:=h;have hb:=HM.box k hkn;split at hk
       ·rename_i l hs;rw [hs] at hb;obtain ⟨b',h1,h2⟩:=hb;rw [hρ] at h1;cases h1;exact ⟨_,_,hk,fun n hn=>List.mem_cons_of_mem _ hn,fun S' e1 e2=>by simp only [Rd];exact ⟨b,rfl,e2 k (by simp) b (by rw [hs];simp) (.inl hρ),h2⟩⟩
       ·exact hk.elim)
    | (obtain ⟨hi,hk⟩:=hk;exact plain _ rfl hk (by simp only [Rd] at h ⊢;obtain ⟨cs,e1,e2,e3⟩:=h;exact ⟨cs,e1,e2,fun i x hx=>⟨(e3 i x hx).1,Rd.immB (hi i (by have:=(Array.getElem?_eq_some_iff.1 hx).1;omega)) (e3 i x hx).2⟩⟩))
structure Gi (M:Mi) (sto:Nat->Box) (us us' F:List Nat):Prop where
 nd:F.Nodup
 sub:∀ n ∈ us,n ∈ us'
 at_:∀ b ∈ F,∃ n,n ∈ us'/\n ∉ us/\sto n≠.dead/\M.O n b
theorem Gi.nil {us:List Nat}:Gi M sto us us []:=⟨List.nodup_nil,fun _ h=>h,nofun⟩
theorem Gi.append (HM:Mem c M sto) {us u1 u2 F1 F2:List Nat} (A:Gi M sto us u1 F1) (B:Gi M sto u1 u2 F2):Gi M sto us u2 (F1 ++ F2):=by
 refine ⟨List.nodup_append.2 ⟨A.nd,B.nd,fun x hx y hy=>?_⟩,fun n hn=>B.sub n (A.sub n hn),fun b hb=>?_⟩
 ·rintro rfl
  obtain ⟨n,n1,n2,n3,n4⟩:=A.at_ x hx;obtain ⟨m,m1,m2,m3,m4⟩:=B.at_ x hy;have:=HM.injO n m x n3 m3 n4 m4;subst this;exact m2 n1
 ·rcases List.mem_append.1 hb with h | h
  ·obtain ⟨n,n1,n2,n3,n4⟩:=A.at_ b h;exact ⟨n,B.sub n n1,n2,n3,n4⟩
  ·obtain ⟨m,m1,m2,m3,m4⟩:=B.at_ b h;exact ⟨m,m1,fun hm=>m2 (A.sub m hm),m3,m4⟩
theorem lesL_gi (HM:Mem c M sto) {f:D->List Nat->(D->List Nat->Prop)->Prop}
 (hf:∀ (d:D) (v:Value) (us:List Nat) (K:D->List Nat->Prop),Rd M false d v->f d us K->∃ d' us' F,K d' us'/\Gi M sto us us' F/\Od M d' v F) :
 ∀ (l:List D) (vs:List Value) (us:List Nat) (K:List D->List Nat->Prop),RdL M false l vs->lesL f l us K->∃ l' us' F,K l' us'/\Gi M sto us us' F/\OdL M l' vs F
 | [],[],us,K,_,hk=>⟨[],us,[],by simpa [lesL] using hk,.nil,by simp [OdL]⟩
 | d :: l,v :: vs,us,K,h,hk=>by
   simp only [RdL] at h;simp only [lesL] at hk;obtain ⟨d',u1,F1,hk,s1,r1⟩:=hf d v us _ h.2.1 hk;obtain ⟨l',u2,F2,hk,s2,r2⟩:=lesL_gi HM hf l vs u1 _ h.2.2 hk;exact ⟨_,_,F1 ++ F2,hk,s1.append HM s2,by simp only [OdL];exact ⟨h.1,F1,F2,rfl,r1,r2⟩⟩
 | [],_ :: _,_,_,h,_=>by simp [RdL] at h
 | _ :: _,[],_,_,h,_=>by simp [RdL] at h
theorem lesL_giT (HM:Mem c M sto) {f:D->List Nat->(D->List Nat->Prop)->Prop}
 (hf:∀ (d:D) (v:Value) (us:List Nat) (K:D->List Nat->Prop),Rd M false d v->f d us K->∃ d' us' F,K d' us'/\Gi M sto us us' F/\Od M d' v F) :
 ∀ (l:List D) (vs:List Value) (us:List Nat) (K:List D->List Nat->Prop),RdT M false l vs->lesL f l us K->∃ l' us' F,K l' us'/\Gi M sto us us' F/\OdT M l' vs F
 | [],[],us,K,_,hk=>⟨[],us,[],by simpa [lesL] using hk,.nil,by simp [OdT]⟩
 | d :: l,v :: vs,us,K,h,hk=>by
   simp only [RdT] at h;simp only [lesL] at hk;obtain ⟨d',u1,F1,hk,s1,r1⟩:=hf d v us _ h.1 hk;obtain ⟨l',u2,F2,hk,s2,r2⟩:=lesL_giT HM hf l vs u1 _ h.2 hk;exact ⟨_,_,F1 ++ F2,hk,s1.append HM s2,by simp only [OdT];exact ⟨F1,F2,rfl,r1,r2⟩⟩
 | [],_ :: _,_,_,h,_=>by simp [RdT] at h
 | _ :: _,[],_,_,h,_=>by simp [RdT] at h
theorem giD_ok (HM:Mem c M sto):∀ (n:Nat) (d:D) (v:Value) (us:List Nat) (K:D->List Nat->Prop),Rd M false d v->giD sto n d us K->∃ d' us' F,K d' us'/\Gi M sto us us' F/\Od M d' v F
 | 0,_,_,_,_,_,hk=>by simp [giD] at hk
 | n+1,d,v,us,K,h,hk=>by
   have plain:∀ d0,K d0 us->(Rd M true d0 v)->(Od M d0 v [] ↔ Rd M true d0 v/\True)->∃ d' us' F,K d' us'/\Gi M sto us us' F/\Od M d' v F:=fun d0 hk hr e =>
    ⟨d0,us,[],hk,.nil,e.2 ⟨hr,trivial⟩⟩
   simp only [giD] at hk;split at hk
   ·rename_i k;simp only [Rd] at h;obtain ⟨_,hkn,rfl,_⟩:=h;have hb:=HM.box k hkn;split at hk
    ·exact hk.elim
    ·rename_i hmem
     have hmem:k ∉ us:=fun h=>by rw [memN_iff.2 h] at hmem;cases hmem
     split at hk
     ·rename_i e sz m f hs;rw [hs] at hb;obtain ⟨xs,o1,o2,o3,o4⟩:=hb;refine ⟨_,_,(M.hv k).ownBlock.toList,hk,⟨?_,fun n hn=>List.mem_cons_of_mem _ hn,fun b hb=>⟨k,by simp,hmem,by rw [hs];simp,.inl ?_⟩⟩,?_⟩
      ·cases (M.hv k).ownBlock<;>simp
      ·rw [o2];simpa using hb
      ·simp only [Od];exact ⟨⟨xs,o1,o3,o4⟩,trivial⟩
     ·rename_i e sz m f hs;rw [hs] at hb;obtain ⟨xs,Fs,o1,o2,o3,o4,o5,o6,o7⟩:=hb;refine ⟨_,_,(M.hv k).ownBlock.toList ++ rowsF Fs m,hk,⟨?_,fun n hn=>List.mem_cons_of_mem _ hn,fun b hb=>⟨k,by simp,hmem,by rw [hs];simp,?_⟩⟩,?_⟩
      ·rw [List.nodup_append];refine ⟨by cases (M.hv k).ownBlock<;>simp,o5,fun x hx y hy=>?_⟩
       rintro rfl
       exact o7 x hy (by simpa using hx)
      ·rcases List.mem_append.1 hb with hb | hb
       ·exact .inl (by rw [o2];simpa using hb)
       ·exact .inr ((o6 b).2 hb)
      ·simp only [Od];exact ⟨xs,Fs,o1,o3,o4,rfl⟩
     ·exact hk.elim
   ·rename_i k off;simp only [Rd] at h;obtain ⟨_,hkn,b,hρ,rfl⟩:=h;have hb:=HM.box k hkn;split at hk
    ·rename_i hmem hoff
     have hmem:k ∉ us:=fun h=>by rw [memN_iff.2 h] at hmem;cases hmem
     have hoff:=nbq hoff;subst hoff;split at hk
     ·rename_i l hs;rw [hs] at hb;obtain ⟨b',cs,ty,h1,h2,h3⟩:=hb;rw [hρ] at h1;cases h1;obtain ⟨l',us',F,hk,s1,r1⟩:=lesL_gi HM (fun d v us K=>giD_ok HM n d v us K) _ _ (k :: us) _ h3 hk;refine ⟨_,_,b :: F,hk,⟨List.nodup_cons.2 ⟨fun hbF=>?_,s1.nd⟩,fun n hn=>s1.sub n (List.mem_cons_of_mem _ hn),fun x hx=>?_⟩,?_⟩
      ·obtain ⟨m,m1,m2,m3,m4⟩:=s1.at_ b hbF;have:=HM.injO m k b m3 (by rw [hs];simp) m4 (.inl hρ);subst this;exact m2 (by simp)
      ·rcases List.mem_cons.1 hx with rfl | hx
       ·exact ⟨k,s1.sub k (by simp),hmem,by rw [hs];simp,.inl hρ⟩
       ·obtain ⟨m,m1,m2,m3,m4⟩:=s1.at_ x hx;exact ⟨m,m1,fun hm=>m2 (List.mem_cons_of_mem _ hm),m3,m4⟩
      ·simp only [Od];exact ⟨b,cs,ty,F,rfl,h2,r1,rfl⟩
     ·exact hk.elim
    ·exact hk.elim
   ·simp only [Rd] at h;obtain ⟨cs,rfl,h⟩:=h;obtain ⟨l',us',F,hk,s1,r1⟩:=lesL_gi HM (fun d v us K=>giD_ok HM n d v us K) _ _ us _ h hk;exact ⟨_,_,F,hk,s1,by simp only [Od];exact ⟨cs,rfl,r1⟩⟩
   ·simp only [Rd] at h;obtain ⟨cs,rfl,h⟩:=h;obtain ⟨l',us',F,hk,s1,r1⟩:=lesL_giT HM (fun d v us K=>giD_ok HM n d v us K) _ _ us _ h hk;exact ⟨_,_,F,hk,s1,by simp only [Od];exact ⟨cs,rfl,r1⟩⟩
   ·simp only [Rd] at h;obtain ⟨cs,rfl,h⟩:=h;obtain ⟨l',us',F,hk,s1,r1⟩:=lesL_gi HM (fun d v us K=>giD_ok HM n d v us K) _ _ us _ h hk;exact ⟨_,_,F,hk,s1,by simp only [Od];exact ⟨cs,rfl,r1⟩⟩
   ·exact hk.elim
   ·rename_i k sz off ln cp;simp only [Rd] at h;obtain ⟨_,hkn,b,hρ,rfl⟩:=h;have hb:=HM.box k hkn;split at hk
    ·rename_i hmem hoff
     have hmem:k ∉ us:=fun h=>by rw [memN_iff.2 h] at hmem;cases hmem
     have hoff:=nbq hoff;subst hoff;split at hk
     ·rename_i e sz' cap kn f hs;split at hk
      ·rename_i q;have q:=nbq q;subst q;obtain ⟨⟨hcp,hln⟩,hk⟩:=hk;subst hcp;rw [hs] at hb;obtain ⟨hz0,b',cs,o1,o2,o3,o4,o5,o6⟩:=hb;rw [hρ] at o1;cases o1;have hls:=Nat.mul_le_mul_right sz (Nat.le_trans hln o4)
       have hxl:(cs.toList.take (ln*sz)).length=ln*sz:=by simp;omega
       have hpt:∀ i,i<ln->(((cs.toList.take (ln*sz)).drop (i*sz)).take sz)=(cs.toList.drop (i*sz)).take sz:=fun i hi=>by
        have:i*sz+sz<=ln*sz:=by rw [<-Nat.succ_mul];exact Nat.mul_le_mul_right _ hi
        have:=seg_seg cs.toList 0 (ln*sz) (i*sz) sz this;simpa using this
       refine ⟨_,_,[b],hk,⟨by simp,fun n hn=>List.mem_cons_of_mem _ hn,fun x hx=>?_⟩,?_⟩
       ·have hx:x=b:=by simpa using hx
        subst hx;exact ⟨k,by simp,hmem,by rw [hs];simp,.inl hρ⟩
       ·simp only [Od];refine ⟨⟨cs.toList.take (ln*sz),⟨hxl,.inr ⟨b,cp,cs,by rw [Nat.zero_mul],o2,by omega,o5,o3,rfl⟩⟩,fun i hi=>by rw [hpt i hi];exact o6 i (by omega),fun u hu=>?_⟩,rfl⟩
        rcases Nat.eq_zero_or_pos sz with h0 | hpos
        ·rw [h0] at hu;simp at hu
        ·obtain ⟨j,hj⟩:=List.mem_iff_getElem?.1 hu
         have hjl:j<ln*sz:=by rw [<-hxl];exact (List.getElem?_eq_some_iff.1 hj).1
         have hi:j / sz<ln:=Nat.div_lt_of_lt_mul (by rw [Nat.mul_comm];exact hjl);refine (o6 (j / sz) (by omega)).one u (List.mem_of_getElem? (i:=j % sz) ?_);rw [List.getElem?_take,if_pos hjl] at hj;rw [List.getElem?_take,if_pos (Nat.mod_lt _ hpos),List.getElem?_drop,Nat.mul_comm (j / sz) sz,Nat.div_add_mod];exact hj
      ·exact hk.elim
     ·exact hk.elim
    ·exact hk.elim
   ·exact hk.elim
   all_goals first
    | exact hk.elim
    | exact plain _ hk (Rd.immB (im:=false) rfl h) (by simp [Od])
    | exact plain _ hk (by simp [Rd]) (by simp [Od])
    | (rename_i k
       simp only [Rd] at h;obtain ⟨_,hkn,b,hρ,rfl⟩:=h;have hb:=HM.box k hkn;split at hk
       ·exact hk.elim
       ·rename_i hmem
        have hmem:k ∉ us:=fun h=>by rw [memN_iff.2 h] at hmem;cases hmem
        split at hk
        ·rename_i l hs;rw [hs] at hb;obtain ⟨b',h1,h2⟩:=hb;rw [hρ] at h1;cases h1;exact ⟨_,_,[b],hk,⟨by simp,fun n hn=>List.mem_cons_of_mem _ hn,fun x hx=>⟨k,by simp,hmem,by rw [hs];simp,by simp at hx;subst hx;exact .inl hρ⟩⟩,by simp only [Od];exact ⟨b,rfl,h2,rfl⟩⟩
        ·rename_i sk kn l hs;rw [hs] at hb;obtain ⟨b',h1,h2⟩:=hb;rw [hρ] at h1;cases h1;refine ⟨_,_,[b],hk,⟨by simp,fun n hn=>List.mem_cons_of_mem _ hn,fun x hx=>⟨k,by simp,hmem,by rw [hs];simp,by simp at hx;subst hx;exact .inl hρ⟩⟩,?_⟩;simp only [Od];exact ⟨b,rfl,by rw [mkM_self];exact h2,rfl⟩
        ·exact hk.elim)
    | (obtain ⟨hi,hk⟩:=hk;exact plain _ hk (by simp only [Rd] at h ⊢;obtain ⟨cs,e1,e2,e3⟩:=h;exact ⟨cs,e1,e2,fun i x hx=>⟨(e3 i x hx).1,Rd.immB (hi i (by have:=(Array.getElem?_eq_some_iff.1 hx).1;omega)) (e3 i x hx).2⟩⟩) (by simp [Od]))
mutual
theorem Od.of_rd {M:Mi}:∀ (d:D) (v:Value),Rd M true d v->Od M d v []
 | .ftab ..,v,h | .foar ..,v,h | .ffam ..,v,h | .fbox _,v,h | .fmap _,v,h | .fmapd ..,v,h=>by simp [Rd] at h
 | .agg l,v,h=>by
   simp only [Rd,Od] at h ⊢;obtain ⟨cs,rfl,h⟩:=h;exact ⟨cs,rfl,OdL.of_rd l _ h⟩
 | .tup l,v,h=>by
   simp only [Rd,Od] at h ⊢;obtain ⟨cs,rfl,h⟩:=h;exact ⟨cs,rfl,OdT.of_rd l _ h⟩
 | .fn f l,v,h=>by
   simp only [Rd,Od] at h ⊢;obtain ⟨cs,rfl,h⟩:=h;exact ⟨cs,rfl,OdL.of_rd l _ h⟩
 | .any,v,h | .int ..,v,h | .lit _,v,h | .bool _,v,h | .str _,v,h | .nil,v,h | .tab ..,v,h | .vec ..,v,h | .ref _,v,h | .null,v,h | .nilfn,v,h | .val _,v,h | .own _,v,h | .loc ..,v,h | .pel ..,v,h | .rsl ..,v,h | .mref _,v,h | .mapb _,v,h=>by
   simp only [Od];exact ⟨h,trivial⟩
theorem OdL.of_rd {M:Mi}:∀ (l:List D) (vs:List Value),RdL M true l vs->OdL M l vs []
 | [],[],_=>by simp [OdL]
 | d :: l,v :: vs,h=>by
   simp only [RdL] at h;simp only [OdL];exact ⟨h.1,[],[],rfl,Od.of_rd d v h.2.1,OdL.of_rd l vs h.2.2⟩
 | [],_ :: _,h=>by simp [RdL] at h
 | _ :: _,[],h=>by simp [RdL] at h
theorem OdT.of_rd {M:Mi}:∀ (l:List D) (vs:List Value),RdT M true l vs->OdT M l vs []
 | [],[],_=>by simp [OdT]
 | d :: l,v :: vs,h=>by
   simp only [RdT] at h;simp only [OdT];exact ⟨[],[],rfl,Od.of_rd d v h.1,OdT.of_rd l vs h.2⟩
 | [],_ :: _,h=>by simp [RdT] at h
 | _ :: _,[],h=>by simp [RdT] at h
end
end
end Sx
namespace Sx
open Go
structure FnOK (P:Program) (g:FuncId):Prop where
 ex:∃ fn,P.funcs[g]? = some fn/\fn.body.isNone=false/\(fn.name == "runtime.NumGoroutine")=false
def ioV:List D->List Value->List Value
 | .fbox _ :: l,v :: vs=>v :: ioV l vs| .foar .. :: l,v :: vs=>v :: ioV l vs| .fmapd .. :: l,v :: vs=>v :: ioV l vs| _ :: l,_ :: vs=>ioV l vs| _,_=>[]
structure Back (w:World) (S0:Nat->Prop) (F:List Nat) (w' : World) (S' : Nat->Prop) (F' : List Nat):Prop where
 os:w'.os=w.os
 tape:w'.tape=w.tape
 output:w'.output=w.output
 size:w.heap.size<=w'.heap.size
 old:∀ b,b<w.heap.size->b ∉ F->w'.heap[b]? = w.heap[b]?
 S:∀ b,S0 b->S' b
 Snew:∀ b,S' b->S0 b\/(w.heap.size<=b/\b<w'.heap.size)\/b ∈ F
 nd:F'.Nodup
 FS:∀ b ∈ F',¬ S' b
 Fnew:∀ b ∈ F',b ∈ F\/w.heap.size<=b
theorem RelM.laid {P:Program} {c:Cx P} {nt:Nt} {M:Mi} {st:St} {a:Act} {w:World} (R:RelM c nt M st a w) {F:List Nat} (hF:∀ b ∈ F,c.w0.heap.size<=b\/c.W0 b):Laid P w.heap (fun b=>b ∈ F):=fun x hx g hg=>by
 obtain ⟨h1,h2,h3⟩:=c.lay x hx g hg;refine ⟨by rw [<-R.h];exact Nat.lt_of_lt_of_le h1 R.mem.size,fun hf=>(hF g hf).elim (fun h=>absurd h1 (Nat.not_lt.2 h)) h2,?_⟩;rw [<-R.h,R.mem.frame g h1 h2];exact h3
structure Ct (P:Program) (g:FuncId) (args:List D) (R:D->List D->Prop):Prop where
 fn:FnOK P g
 ok:∀ (w:World) (S0:Nat->Prop) (vs:Array Value) (F:List Nat),(∀ b,S0 b->b<w.heap.size)->OdT (MiS S0 w.heap) args vs.toList F->F.Nodup->(∀ b ∈ F,¬ S0 b)/\Laid P w.heap (fun b=>b ∈ F) ->
  Calls P g vs w fun e w'=>∃ v r outs S' F',e = .returned v/\R r outs/\Back w S0 F w' S' F'/\OdT (MiS S' w'.heap) (r :: outs) (v :: ioV args vs.toList) F'
theorem Ct.mono {P:Program} {g:FuncId} {args:List D} {R R' : D->List D->Prop} (H:Ct P g args R) (h:∀ r outs,R r outs->R' r outs):Ct P g args R' :=
 ⟨H.fn,fun w S0 vs F h1 h2 h3 h4=>(H.ok w S0 vs F h1 h2 h3 h4).mono fun _ _ ⟨v,r,outs,S',F',a,b,c⟩=>⟨v,r,outs,S',F',a,h r outs b,c⟩⟩
structure CallOK (P:Program) (g:FuncId) (args:List D) (st:St) (K:D->St->Prop):Prop where
 fn:FnOK P g
 ok:∀ (c:Cx P) (nt:Nt) (M:Mi) (a:Act) (w:World) (vs:Array Value),RelM c nt M st a w->RdT M false args vs.toList ->
  Calls P g vs w fun e w'=>∃ d st' M' v,e = .returned v/\K d st'/\RelM c nt M' st' a w'/\Rd M' false d v
def Gr (w w' : World):Prop:=∀ b,b<w.heap.size->w'.heap[b]? = w.heap[b]?
theorem Gr.refl (w:World):Gr w w:=fun _ _=>rfl
structure CallQ (P:Program) (g:FuncId) (args:List D) (st:St) (K:D->St->Prop):Prop where
 fn:FnOK P g
 ok:∀ (c:Cx P) (nt:Nt) (M:Mi) (a:Act) (w:World) (vs:Array Value),RelM c nt M st a w->RdT M false args vs.toList ->
  Calls P g vs w fun e w'=>∃ d st' M' v,e = .returned v/\Gr w w'/\K d st'/\RelM c nt M' st' a w'/\Rd M' false d v
theorem CallQ.call {P:Program} {g:FuncId} {args:List D} {st:St} {K:D->St->Prop} (H:CallQ P g args st K):CallOK P g args st K :=
 ⟨H.fn,fun c nt M a w vs h1 h2=>(H.ok c nt M a w vs h1 h2).mono fun _ _ ⟨d,st',M',v,e1,_,e2,e3⟩=>⟨d,st',M',v,e1,e2,e3⟩⟩
structure Met (P:Program) (g:FuncId) (ds:List D) (K:D->List D->Prop):Prop where
 ok:∃ R,Ct P g ds R/\∀ r outs,R r outs->K r outs
theorem Met.by {P:Program} {g:FuncId} {ds:List D} {R K:D->List D->Prop} (h:Ct P g ds R) (hk:∀ r outs,R r outs->Step (K r outs)):Met P g ds K:=⟨R,h,fun r outs hr=>(hk r outs hr).out⟩
mutual
def noSh:D->Prop
 | .tab ..=>False| .ref _=>False| .mapb _=>False| .vec n g=>∀ i,i<n->noSh (g i)| .fn ..=>False| .ftab _ _ n f=>∀ i,i<n->noShL (f i)| .foar _ _ n f=>∀ i,i<n->noShL (f i)| .ffam _ _ n f=>∀ i,i<n->noShL (f i)| .fbox l=>noShL l| .agg l=>noShL l| .tup l=>noShL l| .fmapd _ _ n _ vs=>∀ i,i<n->noSh (vs i)| _=>True
def noShL:List D->Prop
 | []=>True| d :: l=>noSh d/\noShL l
end
mutual
theorem Rd.noSh {M M' : Mi}:∀ (d:D) (v:Value),noSh d->Rd M true d v->Rd M' true d v
 | .tab ..,_,h,_ | .ref _,_,h,_ | .fn ..,_,h,_ | .mapb _,_,h,_=>by simp [Sx.noSh] at h
 | .vec n g,v,h,hr=>by
   simp only [Rd,Sx.noSh] at h hr ⊢;obtain ⟨cs,rfl,hn,hr⟩:=hr;exact ⟨cs,rfl,hn,fun i x hx=>⟨(hr i x hx).1,Rd.noSh (g i) x (h i (by have:=(Array.getElem?_eq_some_iff.1 hx).1;omega)) (hr i x hx).2⟩⟩
 | .ftab ..,_,_,h | .foar ..,_,_,h | .ffam ..,_,_,h | .fbox _,_,_,h | .own _,_,_,h | .loc ..,_,_,h | .pel ..,_,_,h | .rsl ..,_,_,h | .mref _,_,_,h | .fmap _,_,_,h | .fmapd ..,_,_,h=>by simp [Rd] at h
 | .agg l,v,h,hr=>by
   simp only [Rd,Sx.noSh] at h hr ⊢;obtain ⟨cs,rfl,hr⟩:=hr;exact ⟨cs,rfl,RdL.noSh l _ h hr⟩
 | .tup l,v,h,hr=>by
   simp only [Rd,Sx.noSh] at h hr ⊢;obtain ⟨cs,rfl,hr⟩:=hr;exact ⟨cs,rfl,RdT.noSh l _ h hr⟩
 | .any,v,_,_=>by simp [Rd]
 | .int ..,v,_,h | .lit _,v,_,h | .bool _,v,_,h | .str _,v,_,h | .nil,v,_,h | .null,v,_,h | .nilfn,v,_,h | .val _,v,_,h=>by simpa only [Rd] using h
theorem RdL.noSh {M M' : Mi}:∀ (l:List D) (vs:List Value),noShL l->RdL M true l vs->RdL M' true l vs
 | [],[],_,_=>by simp [RdL]
 | d :: l,v :: vs,h,hr=>by
   simp only [RdL,noShL] at h hr ⊢;exact ⟨hr.1,Rd.noSh d v h.1 hr.2.1,RdL.noSh l vs h.2 hr.2.2⟩
 | [],_ :: _,_,h=>by simp [RdL] at h
 | _ :: _,[],_,h=>by simp [RdL] at h
theorem RdT.noSh {M M' : Mi}:∀ (l:List D) (vs:List Value),noShL l->RdT M true l vs->RdT M' true l vs
 | [],[],_,_=>by simp [RdT]
 | d :: l,v :: vs,h,hr=>by
   simp only [RdT,noShL] at h hr ⊢;exact ⟨Rd.noSh d v h.1 hr.1,RdT.noSh l vs h.2 hr.2⟩
 | [],_ :: _,_,h=>by simp [RdT] at h
 | _ :: _,[],_,h=>by simp [RdT] at h
end
mutual
theorem Od.noSh {M M' : Mi}:∀ (d:D) (v:Value) (F:List Nat),noSh d->Od M d v F->(∀ b ∈ F,M'.h[b]? = M.h[b]?)->Od M' d v F
 | .tab ..,_,_,h,_,_ | .ref _,_,_,h,_,_ | .fn ..,_,_,h,_,_ | .mapb _,_,_,h,_,_=>by simp [Sx.noSh] at h
 | .fmap l,v,F,hs,h,hF=>by
   simp only [Od] at h ⊢;obtain ⟨b,rfl,h,rfl⟩:=h;exact ⟨b,rfl,by rw [hF b (by simp)];exact h,rfl⟩
 | .fmapd sk kn n ks vs,v,F,hs,h,hF=>by
   simp only [Od,Sx.noSh] at h hs ⊢;obtain ⟨b,rfl,⟨es,ck,h1,h2,h3,h4⟩,rfl⟩:=h;refine ⟨b,rfl,⟨es,ck,by rw [hF b (by simp)];exact h1,h2,fun i e x he hx=>?_,h4⟩,rfl⟩
   have hi:i<n:=by have:=(List.getElem?_eq_some_iff.1 hx).1;simpa [mkM] using this
   have hx' : x=(ks i,vs i):=by simp [mkM,hi] at hx;exact hx.symm
   have:=h3 i e x he hx;subst hx';exact Rd.noSh _ _ (hs i hi) this
 | .vec n g,v,F,hs,h,hF=>by
   simp only [Od] at h ⊢;exact ⟨Rd.noSh _ v hs h.1,h.2⟩
 | .ftab e sz n f,v,F,hs,h,hF=>by
   simp only [Od,Sx.noSh] at h hs ⊢;obtain ⟨⟨xs,h1,h2,h3⟩,rfl⟩:=h;refine ⟨⟨xs,⟨h1.1,?_⟩,fun i hi=>RdL.noSh _ _ (hs i hi) (h2 i hi),h3⟩,rfl⟩
   rcases h1.2 with h | ⟨g,cap,cur,rfl,e2,e3⟩
   ·exact .inl h
   ·exact .inr ⟨g,cap,cur,rfl,by rw [hF g (by simp [Value.ownBlock])];exact e2,e3⟩
 | .foar e sz n f,v,F,hs,h,hF=>by
   simp only [Od,Sx.noSh] at h hs ⊢;obtain ⟨⟨xs,h1,h2,h3⟩,rfl⟩:=h;exact ⟨⟨xs,h1.keep fun b hb=>hF b (by simp [hb]),fun i hi=>RdL.noSh _ _ (hs i hi) (h2 i hi),h3⟩,rfl⟩
 | .ffam e sz n f,v,F,hs,h,hF=>by
   simp only [Od,Sx.noSh] at h hs ⊢;obtain ⟨xs,Fs,h1,h2,h3,rfl⟩:=h;exact ⟨xs,Fs,h1.keep fun b hb=>hF b (by simp [hb]),fun i hi=>OdL.noSh (f i) _ (Fs i) (hs i hi) (h2 i hi) fun b hb=>hF b (List.mem_append_right _ (rowsF_in hi hb)),h3,rfl⟩
 | .fbox l,v,F,hs,h,hF=>by
   simp only [Od,Sx.noSh] at h hs ⊢;obtain ⟨b,cs,ty,F',rfl,h2,h3,rfl⟩:=h;exact ⟨b,cs,ty,F',rfl,by rw [hF b (by simp)];exact h2,OdL.noSh l _ F' hs h3 fun x hx=>hF x (by simp [hx]),rfl⟩
 | .agg l,v,F,hs,h,hF=>by
   simp only [Od,Sx.noSh] at h hs ⊢;obtain ⟨cs,rfl,h⟩:=h;exact ⟨cs,rfl,OdL.noSh l _ F hs h hF⟩
 | .tup l,v,F,hs,h,hF=>by
   simp only [Od,Sx.noSh] at h hs ⊢;obtain ⟨cs,rfl,h⟩:=h;exact ⟨cs,rfl,OdT.noSh l _ F hs h hF⟩
 | .any,v,F,hs,h,_ | .int ..,v,F,hs,h,_ | .lit _,v,F,hs,h,_ | .bool _,v,F,hs,h,_ | .str _,v,F,hs,h,_ | .nil,v,F,hs,h,_ | .null,v,F,hs,h,_ | .nilfn,v,F,hs,h,_ | .val _,v,F,hs,h,_
 | .own _,v,F,hs,h,_ | .loc ..,v,F,hs,h,_ | .pel ..,v,F,hs,h,_ | .rsl ..,v,F,hs,h,_ | .mref _,v,F,hs,h,_=>by
   simp only [Od] at h ⊢;exact ⟨Rd.noSh _ _ hs h.1,h.2⟩
theorem OdL.noSh {M M' : Mi}:∀ (l:List D) (vs:List Value) (F:List Nat),noShL l->OdL M l vs F->(∀ b ∈ F,M'.h[b]? = M.h[b]?)->OdL M' l vs F
 | [],[],F,_,h,_=>by simpa [OdL] using h
 | d :: l,v :: vs,F,hs,h,hF=>by
   simp only [OdL,noShL] at h hs ⊢;obtain ⟨h1,F1,F2,rfl,h2,h3⟩:=h;exact ⟨h1,F1,F2,rfl,Od.noSh d v F1 hs.1 h2 (fun b hb=>hF b (List.mem_append_left _ hb)),OdL.noSh l vs F2 hs.2 h3 (fun b hb=>hF b (List.mem_append_right _ hb))⟩
 | [],_ :: _,_,_,h,_=>by simp [OdL] at h
 | _ :: _,[],_,_,h,_=>by simp [OdL] at h
theorem OdT.noSh {M M' : Mi}:∀ (l:List D) (vs:List Value) (F:List Nat),noShL l->OdT M l vs F->(∀ b ∈ F,M'.h[b]? = M.h[b]?)->OdT M' l vs F
 | [],[],F,_,h,_=>by simpa [OdT] using h
 | d :: l,v :: vs,F,hs,h,hF=>by
   simp only [OdT,noShL] at h hs ⊢;obtain ⟨F1,F2,rfl,h2,h3⟩:=h;exact ⟨F1,F2,rfl,Od.noSh d v F1 hs.1 h2 (fun b hb=>hF b (List.mem_append_left _ hb)),OdT.noSh l vs F2 hs.2 h3 (fun b hb=>hF b (List.mem_append_right _ hb))⟩
 | [],_ :: _,_,_,h,_=>by simp [OdT] at h
 | _ :: _,[],_,_,h,_=>by simp [OdT] at h
end
theorem Mem.goOn {Pc:Program} {c:Cx Pc} {M:Mi} {sto:Nat->Box} (H:Mem c M sto) (S' : Nat->Prop) (h' : Array Obj) (F:List Nat) (hsz:M.h.size<=h'.size)
 (hold:∀ b,b<M.h.size->b ∉ F->h'[b]? = M.h[b]?) (hFS:∀ b ∈ F,¬ M.S b) (hFl:∀ b ∈ F,∀ n,sto n≠.dead->¬ M.O n b) (hFf:∀ b ∈ F,c.w0.heap.size<=b\/c.W0 b) (hFb:∀ b ∈ F,b<M.h.size)
 (hS:∀ b,M.S b->S' b) (hS' : ∀ b,S' b->M.S b\/(M.h.size<=b/\b<h'.size)\/b ∈ F) :
 Mem c { M with S:=S',h:=h' } sto/\M.Le { M with S:=S',h:=h' } false:=by
 have hle:M.Le { M with S:=S',h:=h' } false:=⟨hS,fun b hb=>hold b (H.Slt b hb) (fun hF=>hFS b hF hb),fun _=>Nat.le_refl _,fun _ _ _=>rfl,fun _ _ _=>rfl,fun _ _ _=>rfl⟩;refine ⟨⟨Nat.le_trans H.size hsz,fun b hb hw=>(hold b (Nat.lt_of_lt_of_le hb H.size) (fun hF=>?_)).trans (H.frame b hb hw),fun b hb=>?_,fun b hb=>?_,fun n hn=>?_,H.dead,H.injO,fun n b hd hb hs=>?_,H.frO,H.non⟩,hle⟩
 ·rcases hFf b hF with h | h
  ·omega
  ·exact hw h
 ·rcases hS' b hb with h | h | h
  ·exact Nat.lt_of_lt_of_le (H.Slt b h) hsz
  ·exact h.2
  ·exact Nat.lt_of_lt_of_le (hFb b h) hsz
 ·rcases hS' b hb with h | h | h
  ·exact H.Sold b h
  ·exact .inr (.inl (Nat.le_trans H.size h.1))
  ·exact .inr (hFf b h)
 ·by_cases hd:sto n = .dead
  ·rw [hd];trivial
  ·exact (H.box n hn).mono hle hn fun b hb=>hold b (H.bltO hd hb) (fun hF=>hFl b hF n hd hb)
 ·rcases hS' b hs with h | h | h
  ·exact H.sepO n b hd hb h
  ·exact absurd (H.bltO hd hb) (Nat.not_lt.2 h.1)
  ·exact hFl b h n hd hb
def lentOK (ls:List Nat) (r:D) (K:Prop):Prop :=
 match ls with
 | []=>K| _ :: _=>Vc (noSh r) K
theorem lesL_ex {f:D->List Nat->(D->List Nat->Prop)->Prop} (hf:∀ d us K,f d us K->∃ d' us',K d' us'):∀ (l:List D) (us:List Nat) (K:List D->List Nat->Prop),lesL f l us K->∃ l' us',K l' us'
 | [],us,K,h=>⟨[],us,by simpa [lesL] using h⟩
 | d :: l,us,K,h=>by
   simp only [lesL] at h;obtain ⟨d',u1,h⟩:=hf _ _ _ h;obtain ⟨l',u2,h⟩:=lesL_ex hf l u1 _ h;exact ⟨_,_,h⟩
theorem leD_ex {sto:Nat->Box}:∀ (n:Nat) (d:D) (us:List Nat) (K:D->List Nat->Prop),leD sto n d us K->∃ d' us',K d' us'
 | 0,_,_,_,h=>by simp [leD] at h
 | n+1,d,us,K,h=>by
   simp only [leD] at h;split at h
   ·split at h
    ·exact ⟨_,_,h⟩
    ·exact ⟨_,_,h⟩
    ·exact ⟨_,_,h⟩
    ·exact ⟨_,_,h⟩
    ·obtain ⟨l',us',h⟩:=lesL_ex (leD_ex n) _ _ _ h;exact ⟨_,_,h⟩
    ·exact h.elim
   ·split at h
    ·obtain ⟨l',us',h⟩:=lesL_ex (leD_ex n) _ _ _ h;exact ⟨_,_,h⟩
    ·exact h.elim
   ·obtain ⟨l',us',h⟩:=lesL_ex (leD_ex n) _ _ _ h;exact ⟨_,_,h⟩
   ·obtain ⟨l',us',h⟩:=lesL_ex (leD_ex n) _ _ _ h;exact ⟨_,_,h⟩
   ·obtain ⟨l',us',h⟩:=lesL_ex (leD_ex n) _ _ _ h;exact ⟨_,_,h⟩
   all_goals first
    | exact h.elim
    | (obtain ⟨_,h⟩:=h;exact ⟨_,_,h⟩)
    | exact ⟨_,_,h⟩
    | (split at h
       ·exact ⟨_,_,h⟩
       ·exact h.elim)
    | (split at h
       ·exact h.elim
       ·split at h
        ·exact ⟨_,_,h⟩
        ·exact h.elim)
theorem giD_ex {sto:Nat->Box}:∀ (n:Nat) (d:D) (us:List Nat) (K:D->List Nat->Prop),giD sto n d us K->∃ d' us',K d' us'
 | 0,_,_,_,h=>by simp [giD] at h
 | n+1,d,us,K,h=>by
   simp only [giD] at h;split at h
   ·split at h
    ·exact h.elim
    ·split at h
     ·exact ⟨_,_,h⟩
     ·exact ⟨_,_,h⟩
     ·exact h.elim
   ·split at h
    ·split at h
     ·obtain ⟨l',us',h⟩:=lesL_ex (giD_ex n) _ _ _ h;exact ⟨_,_,h⟩
     ·exact h.elim
    ·exact h.elim
   ·obtain ⟨l',us',h⟩:=lesL_ex (giD_ex n) _ _ _ h;exact ⟨_,_,h⟩
   ·obtain ⟨l',us',h⟩:=lesL_ex (giD_ex n) _ _ _ h;exact ⟨_,_,h⟩
   ·obtain ⟨l',us',h⟩:=lesL_ex (giD_ex n) _ _ _ h;exact ⟨_,_,h⟩
   ·exact h.elim
   ·split at h
    ·split at h
     ·split at h
      ·obtain ⟨_,h⟩:=h;exact ⟨_,_,h⟩
      ·exact h.elim
     ·exact h.elim
    ·exact h.elim
   all_goals first
    | exact h.elim
    | (obtain ⟨_,h⟩:=h;exact ⟨_,_,h⟩)
    | exact ⟨_,_,h⟩
    | (split at h
       ·exact ⟨_,_,h⟩
       ·exact h.elim)
    | (split at h
       ·exact h.elim
       ·split at h
        ·exact ⟨_,_,h⟩
        ·exact ⟨_,_,h⟩
        ·exact h.elim)
theorem ioV_rd {M:Mi}:∀ (ds:List D) (vs:List Value),RdT M true ds vs->ioV ds vs = []
 | [],[],_=>rfl
 | d :: l,v :: vs,h=>by
   simp only [RdT] at h;have:=ioV_rd l vs h.2
   cases d<;>simp only [ioV]<;>first
    | exact this
    | (have:=h.1;simp [Rd] at this)
 | [],_ :: _,h=>by simp [RdT] at h
 | _ :: _,[],h=>by simp [RdT] at h
theorem CallQ.of_ct {P:Program} {g:FuncId} {args:List D} {st:St} {K:D->St->Prop}
 (h:lesL (leD st.sto 6) args [] fun ds ls=>Met P g ds fun r _=>lentOK ls r (st.on fun e_ s_ k_=>adD r s_ k_ fun d s n=>K d ⟨e_,s,n⟩)):CallQ P g args st K:=by
 have hfn:FnOK P g:=by
  obtain ⟨ds,ls,⟨R,hc,_⟩⟩:=lesL_ex (leD_ex 6) _ _ _ h;exact hc.fn
 refine ⟨hfn,fun c nt M a w vs R hv=>?_⟩;obtain ⟨ds,ls,⟨Rel,hct,hk⟩,_,hle⟩:=lesL_leT (sto:=st.sto) (fun d v us K=>leD_ok R.mem 6 d v us K) args vs.toList [] _ hv h
 have hsz:M.h.size=w.heap.size:=by rw [R.h]
 have hargs:RdT (MiS (fun b=>M.S b\/∃ n,n ∈ ls/\st.sto n≠.dead/\M.O n b) w.heap) true ds vs.toList:=by
  rw [<-R.h];exact hle _ (fun b hb=>.inl hb) (fun n hn b hd hb=>.inr ⟨n,hn,hd,hb⟩)
 refine (hct.ok w _ vs [] (fun b hb=>?_) (OdT.of_rd _ _ hargs) List.nodup_nil ⟨nofun,R.laid nofun⟩).mono ?_
 ·rcases hb with hb | ⟨n,_,hd,hb⟩
  ·rw [<-hsz];exact R.mem.Slt b hb
  ·rw [<-hsz];exact R.mem.bltO hd hb
 ·rintro e w' ⟨v,r,outs,S1,F',rfl,hR,hB,hod⟩
  rw [ioV_rd _ _ hargs] at hod;simp only [OdT] at hod;obtain ⟨F1,F2,hFF,hod,hod2⟩:=hod
  have houts:outs = []/\F2 = []:=by
   cases outs with
   | nil=>simpa [OdT] using hod2| cons _ _=>simp [OdT] at hod2
  obtain ⟨rfl,rfl⟩:=houts;rw [List.append_nil] at hFF;subst hFF;have hk:=hk r _ hR
  obtain ⟨H1,L1⟩:=R.mem.goOn (fun b=>M.S b\/(S1 b/\w.heap.size<=b)) w'.heap [] (by rw [hsz];exact hB.size) (fun b hb hF=>by rw [R.h];exact hB.old b (by omega) hF) nofun nofun nofun nofun
   (fun b hb=>.inl hb) (fun b hb=>by
     rcases hb with h | ⟨h1,h2⟩
     ·exact .inl h
     ·rcases hB.Snew b h1 with h | h | h
      ·rcases h with h | ⟨n,_,hd,h⟩
       ·exact .inl h
       ·exact absurd (R.mem.bltO hd h) (by omega)
      ·exact .inr (.inl ⟨by omega,h.2⟩)
      ·cases h)
  have hod' : ∀ (hl:ls = []\/noSh r),Od { M with S:=fun b=>M.S b\/(S1 b/\w.heap.size<=b),h:=w'.heap } r v F':=fun hl=>by
   rcases hl with rfl | hl
   ·refine Od.mono (M:=MiS S1 w'.heap) (M':={ M with S:=fun b=>M.S b\/(S1 b/\w.heap.size<=b),h:=w'.heap }) (fun b hb=>?_) (fun _ _=>rfl) r v F' hod (fun _ _=>rfl)
    rcases hB.Snew b hb with h | h | h
    ·rcases h with h | ⟨n,hn,_⟩
     ·exact .inl h
     ·cases hn
    ·exact .inr ⟨hb,h.1⟩
    ·cases h
   ·exact Od.noSh (M:=MiS S1 w'.heap) r v F' hl hod (fun _ _=>rfl)
  have hk' : (ls = []\/noSh r)/\adD r st.sto st.nxt fun d s n=>K d ⟨st.env,s,n⟩:=by
   unfold lentOK at hk;split at hk
   ·exact ⟨.inl rfl,hk⟩
   ·exact ⟨.inr hk.1,hk.2⟩
  obtain ⟨hl,hk⟩:=hk'
  have hge:∀ b ∈ F',w.heap.size<=b:=fun b hb=>by
   rcases hB.Fnew b hb with h | h
   ·cases h
   ·exact h
  have hfree:Free c { M with S:=fun b=>M.S b\/(S1 b/\w.heap.size<=b),h:=w'.heap } st.sto F':=by
   refine ⟨hB.nd,fun b hb hs=>?_,fun b hb n hd he=>absurd (R.mem.bltO hd he) (by have:=hge b hb;omega),fun b hb=>.inl (Nat.le_trans R.mem.size (by have:=hge b hb;omega))⟩
   rcases hs with h | h
   ·exact absurd (R.mem.Slt b h) (by have:=hge b hb;omega)
   ·exact hB.FS b hb h.1
  rw [<-R.nx] at hk;obtain ⟨d',sto',M',hk,A,hr⟩:=adD_ok r v F' { M with S:=fun b=>M.S b\/(S1 b/\w.heap.size<=b),h:=w'.heap } st.sto _ H1 (hod' hl) hfree hk
  have L2:M.Le M' false:=⟨fun b hb=>A.le.S b (L1.S b hb),fun b hb=>(A.le.h b (L1.S b hb)).trans (L1.h b hb),fun _=>Nat.le_trans (L1.nx rfl) (A.le.nx rfl),
   fun _ n hn=>(A.le.ρ rfl n hn).trans (L1.ρ rfl n hn),fun _ n hn=>(A.le.hv rfl n hn).trans (L1.hv rfl n hn),fun _ n hn=>(A.le.X rfl n hn).trans (L1.X rfl n hn)⟩
  exact ⟨d',_,M',v,rfl,fun b hb=>hB.old b hb nofun,hk,R.go L2 A.mem A.h rfl hB.os hB.tape hB.output,hr⟩
theorem CallOK.of_ct {P:Program} {g:FuncId} {args:List D} {st:St} {K:D->St->Prop}
 (h:lesL (leD st.sto 6) args [] fun ds ls=>Met P g ds fun r _=>lentOK ls r (st.on fun e_ s_ k_=>adD r s_ k_ fun d s n=>K d ⟨e_,s,n⟩)):CallOK P g args st K:=(CallQ.of_ct h).call
def caL (sto:Nat->Box) (k:Nat):List D->List Nat->List Nat->(List D->List Nat->List Nat->Prop)->Prop
 | [],us,ls,K=>K [] us ls
 | d :: l,us,ls,K =>
   match d with
   | .loc m 0=>match Nat.beq m k with
     | true=>match memN k us with
       | true=>False
       | false=>match sto k with
         | .var l0=>lesL (giD sto 4) l0 (k :: us) fun l2 us=>caL sto k l us ls fun l us ls=>K (.fbox l2 :: l) us ls
         | _=>False
     | false=>leD sto 6 d ls fun d ls=>caL sto k l us ls fun l us ls=>K (d :: l) us ls
   | d=>leD sto 6 d ls fun d ls=>caL sto k l us ls fun l us ls=>K (d :: l) us ls
def disjN:List Nat->List Nat->Bool
 | [],_=>true
 | k :: l,m=>match memN k m with
   | true=>false| false=>disjN l m
theorem disjN_of:∀ {l m:List Nat},disjN l m=true->∀ k ∈ l,k ∉ m
 | [],_,_,k,hk=>by cases hk
 | x :: l,m,h,k,hk=>by
   simp only [disjN] at h;split at h
   ·cases h
   ·rename_i hx
    rcases List.mem_cons.1 hk with rfl | hk
    ·intro hm;rw [memN_iff.2 hm] at hx;cases hx
    ·exact disjN_of h k hk
def killN (s:Nat->Box):List Nat->Nat->Box
 | []=>s| k :: l=>upd (killN s l) k .dead
theorem killN_dead (s:Nat->Box):∀ (l:List Nat) (k:Nat),k ∈ l->killN s l k = .dead
 | x :: l,k,h=>by
   simp only [killN];by_cases e:k=x
   ·subst e;rw [upd_self]
   ·rw [upd_ne _ _ e]
    rcases List.mem_cons.1 h with h | h
    ·exact absurd h e
    ·exact killN_dead s l k h
theorem killN_ne (s:Nat->Box):∀ (l:List Nat) (k:Nat),k ∉ l->killN s l k=s k
 | [],_,_=>rfl
 | x :: l,k,h=>by
   simp only [killN];rw [upd_ne _ _ (fun e=>h (by simp [e]))];exact killN_ne s l k (fun h'=>h (by simp [h']))
theorem Mem.killN {Pc:Program} {c:Cx Pc} {M:Mi} {sto:Nat->Box} (H:Mem c M sto):∀ (l:List Nat),Mem c M (Sx.killN sto l)
 | []=>H| k :: l=>(Mem.killN H l).kill k
theorem killN_live {s:Nat->Box} {l:List Nat} {k:Nat} (h:killN s l k≠.dead):s k≠.dead/\k ∉ l:=by
 by_cases hk:k ∈ l
 ·exact absurd (killN_dead s l k hk) h
 ·rw [killN_ne s l k hk] at h;exact ⟨h,hk⟩
theorem Mem.revive {Pc:Program} {c:Cx Pc} {M:Mi} {sto:Nat->Box} (H:Mem c M sto) {n b:Nat} (hn:n<M.nx) (hρ:M.ρ n=some b) (bx:Box) (hb:BoxOK M n bx)
 (hS:¬ M.S b) (hocc:∀ m,sto m≠.dead->M.O m b->m=n) (hfr:c.w0.heap.size<=b\/c.W0 b) (hX:∀ b,¬ M.X n b):Mem c M (upd sto n bx):=by
 have hO:∀ b',M.O n b'->b' = b:=fun b' h=>by
  rcases h with h | h
  ·rw [hρ] at h;cases h;rfl
  ·exact absurd h (hX b')
 have live:∀ m,m≠n->upd sto n bx m≠.dead->sto m≠.dead:=fun m e h=>by rw [upd_ne _ _ e] at h;exact h
 refine ⟨H.size,H.frame,H.Slt,H.Sold,fun m hm=>?_,fun m hm=>?_,fun m k b' h1 h2 r1 r2=>?_,fun m b' h1 r1=>?_,fun m b' h1 r1=>?_,fun m h1 hf=>?_⟩
 ·by_cases e:m=n
  ·subst e;rw [upd_self];exact hb
  ·rw [upd_ne _ _ e];exact H.box m hm
 ·have:m≠n:=fun e=>by subst e;omega
  rw [upd_ne _ _ this];exact H.dead m hm
 ·by_cases e1:m=n<;>by_cases e2:k=n
  ·rw [e1,e2]
  ·subst e1;have:=hO b' r1;subst this;exact (hocc k (live k e2 h2) r2).symm
  ·subst e2;have:=hO b' r2;subst this;exact hocc m (live m e1 h1) r1
  ·exact H.injO m k b' (live m e1 h1) (live k e2 h2) r1 r2
 ·by_cases e:m=n
  ·subst e;have:=hO b' r1;subst this;exact hS
  ·exact H.sepO m b' (live m e h1) r1
 ·by_cases e:m=n
  ·subst e;have:=hO b' r1;subst this;exact hfr
  ·exact H.frO m b' (live m e h1) r1
 ·by_cases e:m=n
  ·subst e;exact hX
  ·have h1':=live m e h1;rw [upd_ne _ _ e] at hf;exact H.non m h1' hf
def outW (outs:List D) (s:Nat->Box) (n k:Nat) (K:(Nat->Box)->Nat->Prop):Prop :=
 match outs with
 | [.fbox l]=>adL l s n fun l s n=>K (upd s k (.var l)) n
 | _=>False
theorem caL_ex {sto:Nat->Box} {k:Nat}:∀ (l:List D) (us ls:List Nat) (K:List D->List Nat->List Nat->Prop),caL sto k l us ls K->∃ l' us' ls',K l' us' ls'
 | [],us,ls,K,h=>⟨[],us,ls,by simpa [caL] using h⟩
 | d :: l,us,ls,K,h=>by
   simp only [caL] at h;split at h
   ·split at h
    ·split at h
     ·exact h.elim
     ·split at h
      ·obtain ⟨_,_,h⟩:=lesL_ex (giD_ex 4) _ _ _ h;obtain ⟨l',us',ls',h⟩:=caL_ex l _ _ _ h;exact ⟨_,_,_,h⟩
      ·exact h.elim
    ·obtain ⟨_,_,h⟩:=leD_ex _ _ _ _ h;obtain ⟨l',us',ls',h⟩:=caL_ex l _ _ _ h;exact ⟨_,_,_,h⟩
   ·obtain ⟨_,_,h⟩:=leD_ex _ _ _ _ h;obtain ⟨l',us',ls',h⟩:=caL_ex l _ _ _ h;exact ⟨_,_,_,h⟩
theorem giVar_ok {Pc:Program} {c:Cx Pc} {M:Mi} {sto:Nat->Box} {k bk:Nat} {l:List D} (HM:Mem c M sto) (hs:sto k = .var l) (hρ:M.ρ k=some bk) (hkn:k<M.nx) {us:List Nat} (hmem:k ∉ us) {n:Nat} {K:List D->List Nat->Prop} (h:lesL (giD sto n) l (k :: us) K) :
 ∃ l' us' F,K l' us'/\Gi M sto us us' (bk :: F)/\Od M (.fbox l') (.pointer (some ⟨bk,0,none⟩)) (bk :: F)/\k ∈ us':=by
 have hb:=HM.box k hkn;rw [hs] at hb;obtain ⟨b',cs,ty,h1,h2,h3⟩:=hb;rw [hρ] at h1;cases h1;obtain ⟨l',us',F,hk,s1,r1⟩:=lesL_gi HM (fun d v us K=>giD_ok HM n d v us K) _ _ (k :: us) _ h3 h;refine ⟨_,_,F,hk,⟨List.nodup_cons.2 ⟨fun hbF=>?_,s1.nd⟩,fun n hn=>s1.sub n (List.mem_cons_of_mem _ hn),fun x hx=>?_⟩,?_,s1.sub k (by simp)⟩
 ·obtain ⟨m,m1,m2,m3,m4⟩:=s1.at_ bk hbF;have:=HM.injO m k bk m3 (by rw [hs];simp) m4 (.inl hρ);subst this;exact m2 (by simp)
 ·rcases List.mem_cons.1 hx with rfl | hx
  ·exact ⟨k,s1.sub k (by simp),hmem,by rw [hs];simp,.inl hρ⟩
  ·obtain ⟨m,m1,m2,m3,m4⟩:=s1.at_ x hx;exact ⟨m,m1,fun hm=>m2 (List.mem_cons_of_mem _ hm),m3,m4⟩
 ·simp only [Od];exact ⟨bk,cs,ty,F,rfl,h2,r1,rfl⟩
theorem caL_ok {Pc:Program} {c:Cx Pc} {M:Mi} {sto:Nat->Box} {k bk:Nat} (HM:Mem c M sto) (hk0:M.ρ k=some bk):∀ (l:List D) (vs:List Value) (us ls:List Nat) (K:List D->List Nat->List Nat->Prop),RdT M false l vs->caL sto k l us ls K ->
 ∃ l' us' ls' F,K l' us' ls'/\Gi M sto us us' F/\(∀ n ∈ ls,n ∈ ls')/\(∀ x ∈ ioV l' vs,x = .pointer (some ⟨bk,0,none⟩))/\(ioV l' vs = []\/bk ∈ F)/\(us' = us\/k ∈ us') /\
   ∀ S',(∀ b,M.S b->S' b)->(∀ n ∈ ls',∀ b,sto n≠.dead->M.O n b->S' b)->OdT (MiS S' M.h) l' vs F
 | [],[],us,ls,K,_,h=>⟨[],us,ls,[],by simpa [caL] using h,.nil,fun _ h=>h,by simp [ioV],.inl rfl,.inl rfl,fun _ _ _=>by simp [OdT]⟩
 | d :: l,v :: vs,us,ls,K,hv,h=>by
   simp only [RdT] at hv
   have lend:(leD sto 6 d ls fun d ls=>caL sto k l us ls fun l us ls=>K (d :: l) us ls)->∃ l' us' ls' F,K l' us' ls'/\Gi M sto us us' F/\(∀ n ∈ ls,n ∈ ls')/\(∀ x ∈ ioV l' (v :: vs),x = .pointer (some ⟨bk,0,none⟩))/\(ioV l' (v :: vs) = []\/bk ∈ F)/\(us' = us\/k ∈ us') /\
    ∀ S',(∀ b,M.S b->S' b)->(∀ n ∈ ls',∀ b,sto n≠.dead->M.O n b->S' b)->OdT (MiS S' M.h) l' (v :: vs) F:=fun h=>by
    obtain ⟨d',l1,h,s1,r1⟩:=leD_ok HM 6 d v ls _ hv.1 h;obtain ⟨l',us',ls',F,h,g,s2,io,iob,hu,r2⟩:=caL_ok HM hk0 l vs us l1 _ hv.2 h
    have hio:ioV (d' :: l') (v :: vs)=ioV l' vs:=by
     have hr:=r1 (fun _=>True) (fun _ _=>trivial) (fun _ _ _ _ _=>trivial)
     cases d'<;>simp only [ioV]<;>(simp [Rd] at hr)
    refine ⟨_,us',ls',F,h,g,fun n hn=>s2 n (s1 n hn),by rw [hio];exact io,by rw [hio];exact iob,hu,fun S' e1 e2=>?_⟩;simp only [OdT];exact ⟨[],F,rfl,Od.of_rd _ _ (r1.mono s2 S' e1 e2),r2 S' e1 e2⟩
   simp only [caL] at h;split at h
   ·rename_i m;split at h
    ·rename_i hm;have hm:=nbq hm;subst hm;have hv0:=hv.1;simp only [Rd] at hv0;obtain ⟨_,hmn,b,hρ,rfl⟩:=hv0;rw [hk0] at hρ;cases hρ;split at h
     ·exact h.elim
     rename_i hmem
     have hmem:m ∉ us:=fun h=>by rw [memN_iff.2 h] at hmem;cases hmem
     split at h
     case h_2=>exact h.elim
     rename_i l0 hs;obtain ⟨l2,u1,F1,h,g1,r1,hmu⟩:=giVar_ok HM hs hk0 hmn hmem h
     have hb1:bk ∈ bk :: F1:=by simp
     obtain ⟨l',us',ls',F,h,g,s2,io,iob,hu,r2⟩:=caL_ok HM hk0 l vs u1 ls _ hv.2 h;refine ⟨_,us',ls',bk :: F1 ++ F,h,g1.append HM g,s2,fun x hx=>?_,.inr (List.mem_append_left _ hb1),.inr (g.sub _ hmu),fun S' e1 e2=>?_⟩
     ·simp only [ioV,List.mem_cons] at hx
      rcases hx with rfl | hx
      ·rfl
      ·exact io x hx
     ·simp only [OdT];exact ⟨bk :: F1,F,rfl,Od.mono (M:=M) (M':=MiS S' M.h) e1 (fun _ _=>rfl) _ _ _ r1 (fun _ _=>rfl),r2 S' e1 e2⟩
    ·exact lend h
   ·exact lend h
 | [],_ :: _,_,_,_,h,_=>by simp [RdT] at h
 | _ :: _,[],_,_,_,h,_=>by simp [RdT] at h
def lentOK2 (ls:List Nat) (r:D) (outs:List D) (K:Prop):Prop :=
 match ls with
 | []=>K| _ :: _=>Vc (noSh r/\noShL outs) K
theorem lentOK2_of {ls:List Nat} {r:D} {outs:List D} {K:Prop} (h:lentOK2 ls r outs K):(ls = []\/(noSh r/\noShL outs))/\K:=by
 unfold lentOK2 at h;split at h
 ·exact ⟨.inl rfl,h⟩
 ·exact ⟨.inr h.vc,h.k⟩
def isVar (b:Box) (K:Prop):Prop:=match b with
 | .var _=>K| _=>False
theorem Free.rot {Pc:Program} {c:Cx Pc} {M:Mi} {sto:Nat->Box} {b:Nat} {F:List Nat} (H:Free c M sto (b :: F)):Free c M sto (F ++ [b]):=by
 have:=List.nodup_cons.1 H.nd;refine ⟨?_,fun x hx=>H.S x (by simp at hx ⊢;exact hx.symm),fun x hx=>H.occ x (by simp at hx ⊢;exact hx.symm),fun x hx=>H.fr x (by simp at hx ⊢;exact hx.symm)⟩;rw [List.nodup_append];exact ⟨this.2,by simp,fun x hx y hy=>by simp at hy;subst hy;rintro rfl;exact this.1 hx⟩
def disjM (us ls:List Nat) (K:Prop):Prop:=match disjN us ls with
 | true=>K| false=>False
theorem disjM_of {us ls:List Nat} {K:Prop} (h:disjM us ls K):disjN us ls=true/\K:=by
 unfold disjM at h;split at h
 ·rename_i e;exact ⟨e,h⟩
 ·exact h.elim
theorem CallOK.io {P:Program} {g:FuncId} {args:List D} {st:St} {K:D->St->Prop} (k:Nat)
 (h:isVar (st.sto k) (caL st.sto k args [] [] fun ds us ls=>disjM us ls (Met P g ds fun r outs =>
   lentOK2 ls r outs (st.on fun e_ s_ k_=>adD r (killN s_ us) k_ fun d s n=>outW outs s n k fun s n=>K d ⟨e_,s,n⟩)))):CallOK P g args st K:=by
 unfold isVar at h;split at h
 case h_2=>exact h.elim
 rename_i lk hsk
 have hfn:FnOK P g:=by
  obtain ⟨ds,us,ls,hd⟩:=caL_ex _ _ _ _ h;obtain ⟨_,R,hc,_⟩:=disjM_of hd;exact hc.fn
 refine ⟨hfn,fun c nt M a w vs R hv=>?_⟩
 have hkl:st.sto k≠.dead:=by rw [hsk];simp
 have hkn:=R.mem.lt hkl
 obtain ⟨bk,csk,tyk,hρk,hbk,_⟩:BoxOK M k (.var lk):=by rw [<-hsk];exact R.mem.box k hkn
 obtain ⟨ds,us,ls,F,hdm,G,_,io,iob,hu,hod0⟩:=caL_ok R.mem hρk args vs.toList [] [] _ hv h;obtain ⟨hdis,Rel,hct,hk⟩:=disjM_of hdm
 have hsz:M.h.size=w.heap.size:=by rw [R.h]
 have hargs:OdT (MiS (fun b=>M.S b\/∃ n,n ∈ ls/\st.sto n≠.dead/\M.O n b) w.heap) ds vs.toList F:=by
  rw [<-R.h];exact hod0 _ (fun b hb=>.inl hb) (fun n hn b hd hb=>.inr ⟨n,hn,hd,hb⟩)
 have hFS:∀ b ∈ F,¬ M.S b:=fun b hb=>by
  obtain ⟨n,_,_,n3,n4⟩:=G.at_ b hb;exact R.mem.sepO n b n3 n4
 have hFl:∀ b ∈ F,∀ n,killN st.sto us n≠.dead->¬ M.O n b:=fun b hb n hn he=>by
  obtain ⟨m,m1,_,m3,m4⟩:=G.at_ b hb;obtain ⟨h1,h2⟩:=killN_live hn;have:=R.mem.injO n m b h1 m3 he m4;subst this;exact h2 m1
 have hFf:∀ b ∈ F,c.w0.heap.size<=b\/c.W0 b:=fun b hb=>by
  obtain ⟨n,_,_,n3,n4⟩:=G.at_ b hb;exact R.mem.frO n b n3 n4
 have hFlt:∀ b ∈ F,b<w.heap.size:=fun b hb=>by
  obtain ⟨n,_,_,n3,n4⟩:=G.at_ b hb;rw [<-hsz];exact R.mem.bltO n3 n4
 refine (hct.ok w _ vs F (fun b hb=>?_) hargs G.nd ⟨fun b hb hs=>?_,R.laid hFf⟩).mono ?_
 ·rcases hb with hb | ⟨n,_,hd,hb⟩
  ·rw [<-hsz];exact R.mem.Slt b hb
  ·rw [<-hsz];exact R.mem.bltO hd hb
 ·rcases hs with hs | ⟨n,hn,hd,hs⟩
  ·exact hFS b hb hs
  ·obtain ⟨m,m1,_,m3,m4⟩:=G.at_ b hb;have:=R.mem.injO n m b hd m3 hs m4;subst this;exact disjN_of hdis n m1 hn
 ·rintro e w' ⟨v,r,outs,S1,F',rfl,hR,hB,hod⟩
  obtain ⟨hl,hk1⟩:=lentOK2_of (hk r outs hR)
  have hk1:adD r (killN st.sto us) st.nxt fun d s n=>outW outs s n k fun s n=>K d ⟨st.env,s,n⟩:=hk1
  simp only [OdT] at hod;obtain ⟨F1,F2,rfl,hod1,hod2⟩:=hod
  obtain ⟨H1,L1⟩:=(R.mem.killN us).goOn (fun b=>M.S b\/(S1 b/\(w.heap.size<=b\/b ∈ F))) w'.heap F (by rw [hsz];exact hB.size) (fun b hb hF=>by rw [R.h];exact hB.old b (by omega) hF) hFS hFl hFf (fun b hb=>by rw [hsz] ;exact hFlt b hb)
   (fun b hb=>.inl hb) (fun b hb=>by
     rcases hb with h | ⟨h1,h2⟩
     ·exact .inl h
     ·rcases hB.Snew b h1 with h | h | h
      ·rcases h with h | ⟨n,hn,hd,h⟩
       ·exact .inl h
       ·exfalso
        rcases h2 with h2 | h2
        ·exact absurd (R.mem.bltO hd h) (by omega)
        ·obtain ⟨m,m1,_,m3,m4⟩:=G.at_ b h2;have:=R.mem.injO n m b hd m3 h m4;subst this;exact disjN_of hdis n m1 hn
      ·exact .inr (.inl ⟨by omega,h.2⟩)
      ·exact .inr (.inr h))
  have hSS:ls = []->∀ b,S1 b->M.S b\/(S1 b/\(w.heap.size<=b\/b ∈ F)):=fun hl b hb=>by
   rcases hB.Snew b hb with h | h | h
   ·rcases h with h | ⟨n,hn,_⟩
    ·exact .inl h
    ·subst hl;cases hn
   ·exact .inr ⟨hb,.inl h.1⟩
   ·exact .inr ⟨hb,.inr h⟩
  have hfree:Free c { M with S:=fun b=>M.S b\/(S1 b/\(w.heap.size<=b\/b ∈ F)),h:=w'.heap } (killN st.sto us) (F1 ++ F2):=by
   refine ⟨hB.nd,fun b hb hs=>?_,fun b hb n hd he=>?_,fun b hb=>?_⟩
   ·rcases hs with h | h
    ·rcases hB.Fnew b hb with hF | hF
     ·exact hFS b hF h
     ·exact absurd (R.mem.Slt b h) (by omega)
    ·exact hB.FS b hb h.1
   ·rcases hB.Fnew b hb with hF | hF
    ·exact hFl b hF n hd he
    ·exact absurd ((R.mem.killN us).bltO hd he) (by omega)
   ·rcases hB.Fnew b hb with hF | hF
    ·exact hFf b hF
    ·exact .inl (Nat.le_trans R.mem.size (by omega))
  have hod1' : Od { M with S:=fun b=>M.S b\/(S1 b/\(w.heap.size<=b\/b ∈ F)),h:=w'.heap } r v F1:=by
   rcases hl with hl | hl
   ·exact Od.mono (M:=MiS S1 w'.heap) (M':={ M with S:=fun b=>M.S b\/(S1 b/\(w.heap.size<=b\/b ∈ F)),h:=w'.heap }) (hSS hl) (fun _ _=>rfl) r v F1 hod1 (fun _ _=>rfl)
   ·exact Od.noSh (M:=MiS S1 w'.heap) r v F1 hl.1 hod1 (fun _ _=>rfl)
  have hod2' : OdT { M with S:=fun b=>M.S b\/(S1 b/\(w.heap.size<=b\/b ∈ F)),h:=w'.heap } outs (ioV ds vs.toList) F2:=by
   rcases hl with hl | hl
   ·exact OdT.mono (M:=MiS S1 w'.heap) (M':={ M with S:=fun b=>M.S b\/(S1 b/\(w.heap.size<=b\/b ∈ F)),h:=w'.heap }) (hSS hl) (fun _ _=>rfl) outs _ F2 hod2 (fun _ _=>rfl)
   ·exact OdT.noSh (M:=MiS S1 w'.heap) outs _ F2 hl.2 hod2 (fun _ _=>rfl)
  rw [<-R.nx] at hk1;obtain ⟨d',s1,M1,hk2,A,hr⟩:=adD_ok r v F1 { M with S:=fun b=>M.S b\/(S1 b/\(w.heap.size<=b\/b ∈ F)),h:=w'.heap } (killN st.sto us) _ H1 hod1' hfree.left hk1;have hf2:=hfree.right A;clear hk hk1;unfold outW at hk2;split at hk2
  case h_2=>exact hk2.elim
  rename_i l2
  obtain ⟨x,hx⟩:∃ x,ioV ds vs.toList = [x]:=by
   cases hio:ioV ds vs.toList with
   | nil=>rw [hio] at hod2';simp [OdT] at hod2'
   | cons x t=>cases t with
     | nil=>exact ⟨x,rfl⟩
     | cons y t=>rw [hio] at hod2';simp [OdT] at hod2'
  have hxv:=io x (by rw [hx];simp);rw [hx] at hod2';simp only [OdT] at hod2';obtain ⟨G1,G2,rfl,hodf,rfl⟩:=hod2';rw [List.append_nil] at hf2;simp only [Od] at hodf;obtain ⟨b2,cs2,ty2,F3,he2,hb2,hodl,rfl⟩:=hodf;rw [hxv] at he2
  have he2:b2=bk:=by simp at he2;exact he2.symm
  subst he2;have hodl':=OdL.mono A.le.S A.le.h l2 cs2.toList F3 hodl (fun b _=>by rw [A.h]);obtain ⟨l3,s2,M2,hk3,A2,hr2⟩:=adL_ok l2 cs2.toList F3 M1 s1 _ A.mem hodl' hf2.rot.left hk2;have hf3:=hf2.rot.right A2
  have L2:M.Le M2 false:=⟨fun b hb=>A2.le.S b (A.le.S b (L1.S b hb)),fun b hb=>(A2.le.h b (A.le.S b (L1.S b hb))).trans ((A.le.h b (L1.S b hb)).trans (L1.h b hb)),fun _=>Nat.le_trans (L1.nx rfl) (Nat.le_trans (A.le.nx rfl) (A2.le.nx rfl)),
   fun _ n hn=>(A2.le.ρ rfl n (Nat.lt_of_lt_of_le hn (A.le.nx rfl))).trans ((A.le.ρ rfl n hn).trans (L1.ρ rfl n hn)),fun _ n hn=>(A2.le.hv rfl n (Nat.lt_of_lt_of_le hn (A.le.nx rfl))).trans ((A.le.hv rfl n hn).trans (L1.hv rfl n hn)),fun _ n hn=>(A2.le.X rfl n (Nat.lt_of_lt_of_le hn (A.le.nx rfl))).trans ((A.le.X rfl n hn).trans (L1.X rfl n hn))⟩
  have hh2:M2.h=w'.heap:=A2.h.trans A.h
  have hm3:=A2.mem.revive (n:=k) (b:=b2) (Nat.lt_of_lt_of_le hkn (L2.nx rfl)) ((L2.ρ rfl k hkn).trans hρk) (.var l3) ⟨b2,cs2,ty2,(L2.ρ rfl k hkn).trans hρk,by rw [hh2];exact hb2,hr2⟩
   (hf3.S b2 (by simp)) (fun m hm he=>absurd he (hf3.occ b2 (by simp) m hm)) (hf3.fr b2 (by simp)) (fun b hb=>R.mem.non k hkl (by rw [hsk];rfl) b (by rw [<-L2.X rfl k hkn];exact hb))
  exact ⟨d',_,M2,v,rfl,hk3,R.go L2 hm3 hh2 rfl hB.os hB.tape hB.output,Rd.mono A2.le _ _ hr⟩
def giA (sto:Nat->Box) (d:D) (us:List Nat) (K:D->List Nat->Prop):Prop :=
 match d with
 | .own k=>match memN k us with
   | true=>False
   | false=>match sto k with
     | .arr e sz m f=>K (.ftab e sz m f) (k :: us)| _=>False
 | .agg l=>lesL (giD sto 4) l us fun l us=>K (.agg l) us
 | _=>False
def D.gives:D->Bool
 | .own _=>true| .agg _=>true| _=>false
theorem lesL_imp {f:D->List Nat->(D->List Nat->Prop)->Prop} (hf:∀ d us (K K' : D->List Nat->Prop),(∀ d us,K d us->K' d us)->f d us K->f d us K') {K K' : List D->List Nat->Prop} (hk:∀ l us,K l us->K' l us):∀ (l:List D) (us:List Nat),lesL f l us K->lesL f l us K'
 | [],us,h=>hk _ _ h
 | d :: l,us,h=>by
   simp only [lesL] at h ⊢;exact hf _ _ _ _ (fun d us h=>lesL_imp hf (fun l us h=>hk _ _ h) l us h) h
theorem giD_imp {sto:Nat->Box}:∀ (n:Nat) (d:D) (us:List Nat) (K K' : D->List Nat->Prop),(∀ d us,K d us->K' d us)->giD sto n d us K->giD sto n d us K'
 | 0,_,_,_,_,_,h=>by simp [giD] at h
 | n+1,d,us,K,K',hk,h=>by
   have hl:∀ (g:List D->D) (l:List D) (us:List Nat),lesL (giD sto n) l us (fun l us=>K (g l) us)->lesL (giD sto n) l us fun l us=>K' (g l) us:=fun g l us h=>lesL_imp (giD_imp n) (fun l us h=>hk _ _ h) l us h
   cases d with
   | own k =>
     simp only [giD] at h ⊢
     split at h<;>try exact h.elim
     split at h<;>first | exact h.elim | exact hk _ _ h
   | loc k off =>
     simp only [giD] at h ⊢
     split at h<;>try exact h.elim
     split at h<;>try exact h.elim
     exact hl (fun l=>.fbox l) _ _ h
   | agg l=>simp only [giD] at h ⊢;exact hl .agg _ _ h
   | tup l=>simp only [giD] at h ⊢;exact hl .tup _ _ h
   | fn f l=>simp only [giD] at h ⊢;exact hl (fun l=>.fn f l) _ _ h
   | rsl k sz off ln cp =>
     simp only [giD] at h ⊢
     split at h<;>try exact h.elim
     split at h<;>try exact h.elim
     split at h<;>try exact h.elim
     exact ⟨h.1,hk _ _ h.2⟩
   | pel _ _ _ _ | ftab _ _ _ _ | foar _ _ _ _ | ffam _ _ _ _ | fbox _ | fmap _ | fmapd _ _ _ _ _=>simp [giD] at h
   | mref k =>
     simp only [giD] at h ⊢
     split at h<;>try exact h.elim
     split at h<;>first | exact h.elim | exact hk _ _ h
   | vec k g=>simp only [giD] at h ⊢;obtain ⟨h1,h⟩:=h;exact ⟨h1,hk _ _ h⟩
   | any | int _ _ | lit _ | bool _ | str _ | nil | tab _ _ _ | ref _ | null | nilfn | val _ | mapb _=>simp only [giD] at h ⊢;exact hk _ _ h
theorem giA_ex {sto:Nat->Box} {d:D} {us:List Nat} {K:D->List Nat->Prop} (h:giA sto d us K):∃ d' us',K d' us':=by
 unfold giA at h;split at h
 ·split at h
  ·exact h.elim
  ·split at h
   ·exact ⟨_,_,h⟩
   ·exact h.elim
 ·obtain ⟨_,_,h⟩:=lesL_ex (giD_ex 4) _ _ _ h;exact ⟨_,_,h⟩
 ·exact h.elim
theorem giA_ok {Pc:Program} {c:Cx Pc} {M:Mi} {sto:Nat->Box} (HM:Mem c M sto) {d:D} {v:Value} {us:List Nat} {K:D->List Nat->Prop} (hv:Rd M false d v) (h:giA sto d us K) :
 ∃ d' us' F,K d' us'/\Gi M sto us us' F/\Od M d' v F/\∀ l vs,ioV (d' :: l) (v :: vs)=ioV l vs:=by
 unfold giA at h;split at h
 ·rename_i k;split at h
  ·exact h.elim
  ·rename_i hm;split at h
   ·rename_i e sz m f hs;obtain ⟨d',us',F,⟨h1,h2⟩,g,ho⟩:=giD_ok HM 1 (.own k) v us (fun d us=>K d us/\d = .ftab e sz m f) hv (by simp only [giD,hm,hs];exact ⟨h,trivial⟩);subst h2;exact ⟨_,us',F,h1,g,ho,fun _ _=>rfl⟩
   ·exact h.elim
 ·rename_i l
  obtain ⟨d',us',F,⟨h1,l',h2⟩,g,ho⟩:=giD_ok HM 5 (.agg l) v us (fun d us=>K d us/\∃ l',d = .agg l') hv (by
   simp only [giD]
   exact lesL_imp (giD_imp 4) (fun l us h=>⟨h,l,rfl⟩) _ _ h)
  subst h2;exact ⟨_,us',F,h1,g,ho,fun _ _=>rfl⟩
 ·exact h.elim
def ioArg:List D->(Nat->Prop)->Prop
 | [],_=>False
 | d :: l,K=>match d with
   | .loc k 0=>K k| _=>ioArg l K
theorem ioArg_of:∀ {l:List D} {K:Nat->Prop},ioArg l K->∃ k,K k
 | [],_,h=>h.elim
 | d :: l,K,h=>by
   simp only [ioArg] at h;split at h
   ·exact ⟨_,h⟩
   ·exact ioArg_of h
theorem CallOK.io1 {P:Program} {g:FuncId} {args:List D} {st:St} {K:D->St->Prop}
 (h:ioArg args fun k=>isVar (st.sto k) (caL st.sto k args [] [] fun ds us ls=>disjM us ls (Met P g ds fun r outs =>
   lentOK2 ls r outs (st.on fun e_ s_ k_=>adD r (killN s_ us) k_ fun d s n=>outW outs s n k fun s n=>K d ⟨e_,s,n⟩)))):CallOK P g args st K:=by
 obtain ⟨k,hk⟩:=ioArg_of h;exact CallOK.io k hk
end Sx
namespace Sx
open Go
section
variable {P:Program} {Γ:Ty} {c:Cx P} {nt:Nt} {M:Mi} {st:St} {a:Act} {w:World}
def vecT (g:Nat->D):Nat->Nat->List D
 | _,0=>[]| i,k+1=>g i :: vecT g (i+1) k
theorem vecT_rd {g:Nat->D}:∀ (k i:Nat) (xs:List Value),xs.length=k->(∀ j x,xs[j]? = some x->x.oneCell' = true/\Rd M false (g (i+j)) x)->RdL M false (vecT g i k) xs
 | 0,i,[],_,_=>by simp only [vecT,RdL]
 | 0,_,_ :: _,h,_=>by simp at h
 | _+1,_,[],h,_=>by simp at h
 | k+1,i,x :: xs,h,hx=>by
   simp only [vecT,RdL];refine ⟨(hx 0 x rfl).1,(hx 0 x rfl).2,vecT_rd k (i+1) xs (by simpa using h) fun j y hy=>?_⟩;have:=hx (j+1) y (by simpa using hy)
   rwa [show i+(j+1)=i+1+j by omega] at this
def cellsV (d:D) (K:List D->Prop):Prop :=
 match d with
 | .vec n g=>match Nat.ble n 4 with
   | true=>forceL (vecT g 0 n) K| false=>False
 | d=>cellsD d K
theorem cellsV_of {d:D} {K:List D->Prop} {v:Value} (h:cellsV d K) (hv:Rd M false d v):∃ l,K l/\RdL M false l v.cells.toList:=by
 unfold cellsV at h;split at h
 ·split at h
  ·rw [forceL_eq] at h;simp only [Rd] at hv;obtain ⟨cs,rfl,hs,hr⟩:=hv;exact ⟨_,h,vecT_rd _ 0 _ (by simpa [Value.cells] using hs) fun j x hx=>by simpa using hr j x (by simpa [Value.cells] using hx)⟩
  ·exact h.elim
 ·exact cellsD_of h hv
def chunks (sz:Nat):List D->(List (List D)->Prop)->Prop
 | [],K=>K []
 | d :: l,K=>D.force d fun d=>cellsV d fun m=>match Nat.beq m.length sz,immL m with
   | true,true=>chunks sz l fun r=>K (m :: r)
   | _,_=>False
def selC:List (List D)->Nat->List D
 | [],_=>[]| [m],_=>m| m :: r,i=>iteL (i=0) m (selC r (i - 1))
def seqN:Nat->List (Nat × Operand)->Bool
 | _,[]=>true
 | k,(i,_) :: l=>match Nat.beq i k with
   | true=>seqN (k+1) l| false=>false
def litD (Γ:Ty) (st:St) (t n:Nat) (ps:List D) (K:D->St->Prop):Prop :=
 match (Γ.get t).k with
 | .slice e=>match szB Γ e (Γ.get e).size,Nat.beq ps.length n,Nat.ble (n*(Γ.get e).size) 16777216 with
   | true,true,true=>chunks (Γ.get e).size ps fun cs=>st.on fun e_ s_ k_=>K (.own k_) ⟨e_,upd s_ k_ (.arr e (Γ.get e).size n fun i=>selC cs i),k_+1⟩
   | _,_,_=>False
 | _=>False
theorem chunks_of {sz:Nat}:∀ (ds:List D) (vs:List Value) (K:List (List D)->Prop),RdT M false ds vs->chunks sz ds K ->
 ∃ cs,K cs/\cs.length=vs.length/\(∀ v ∈ vs,v.cells.size=sz)/\∀ (i:Nat) (v:Value) ,vs[i]? = some v->RdL M true (selC cs i) v.cells.toList
 | [],[],K,_,h=>⟨[],by simpa [chunks] using h,rfl,nofun,nofun⟩
 | d :: ds,v :: vs,K,hv,h=>by
   simp only [RdT] at hv;simp only [chunks,force_eq] at h;obtain ⟨m,h,hm⟩:=cellsV_of h hv.1;split at h
   ·rename_i e1 him;have e1:=nbq e1;obtain ⟨cs,hk,hl,hs,hsel⟩:=chunks_of ds vs _ hv.2 h;have hml:=hm.length;refine ⟨m :: cs,hk,by simp [hl],fun u hu=>?_,fun i u hi=>?_⟩
    ·rcases List.mem_cons.1 hu with rfl | hu
     ·simp at hml;omega
     ·exact hs u hu
    ·match cs,hl,hsel with
     | [],hl,_ =>
       have:vs = []:=List.eq_nil_of_length_eq_zero hl.symm;subst this
       match i,hi with
       | 0,hi=>simp at hi;subst hi;simp only [selC];exact hm.immL him
     | c0 :: cs0,hl,hsel =>
       simp only [selC];refine RdL.ite (fun h0=>?_) (fun h0=>?_)
       ·subst h0;simp at hi;subst hi;exact hm.immL him
       ·obtain ⟨j,rfl⟩:∃ j,i=j+1:=⟨i - 1,by omega⟩;exact hsel j u (by simpa using hi)
   ·exact h.elim
 | [],_ :: _,_,h,_=>by simp [RdT] at h
 | _ :: _,[],_,h,_=>by simp [RdT] at h
theorem fill_seq (sz:Nat):∀ (vs:List Value) (k:Nat) (cs:Array Value),cs.size=(k+vs.length)*sz->(∀ v ∈ vs,v.cells.size=sz) ->
 ∃ cs',Instr.fill (fun i=>some (i*sz,sz)) cs ((vs.zipIdx k).map fun x=>(x.2,x.1))=some cs'/\cs'.toList=cs.toList.take (k*sz) ++ vs.flatMap fun v=>v.cells.toList
 | [],k,cs,hs,_=>⟨cs,rfl,by simp at hs ⊢;rw [List.take_of_length_le (by simp;omega)]⟩
 | v :: vs,k,cs,hs,h=>by
   have hv:=h v (by simp)
   have hks:(k+(v :: vs).length)*sz=k*sz+sz+vs.length*sz:=by simp only [List.length_cons];rw [Nat.add_mul,Nat.add_mul,Nat.one_mul];omega
   have hle:k*sz+v.cells.size<=cs.size:=by rw [hv];omega
   have e1:(v.cells.zipIdx.foldl (fun cs (x:Value × Nat)=>cs.setIfInBounds (k*sz+x.2) x.1) cs).toList=setV cs.toList (k*sz) v.cells.toList:=by
    rw [<-Array.foldl_toList,Array.toList_zipIdx];exact foldl_set v.cells.toList cs (k*sz) 0 (by simpa using hle)
   have e2:(v.cells.zipIdx.foldl (fun cs (x:Value × Nat)=>cs.setIfInBounds (k*sz+x.2) x.1) cs).size=cs.size:=by
    have:=congrArg List.length e1;rw [length_setV] at this;simpa using this
   obtain ⟨cs',h1,h2⟩:=fill_seq sz vs (k+1) _ (by rw [e2,hs];congr 1;simp;omega) (fun u hu=>h u (by simp [hu]));refine ⟨cs',?_,?_⟩
   ·simp only [List.zipIdx_cons,List.map_cons,Instr.fill];rw [if_neg (by simp only [ne_eq,Bool.or_eq_true,decide_eq_true_eq,not_or,Nat.not_lt,Decidable.not_not];exact ⟨hv,hle⟩)];exact h1
   ·rw [h2,e1,setV_eq _ _ _ (by simpa using hle),Nat.succ_mul]
    have hvl:v.cells.toList.length=sz:=by simpa using hv
    have hcl:cs.toList.length=cs.size:=by simp
    have:((cs.toList.take (k*sz) ++ v.cells.toList ++ cs.toList.drop (k*sz+v.cells.toList.length)).take (k*sz+sz))=cs.toList.take (k*sz) ++ v.cells.toList:=by
     refine List.take_left' ?_;simp only [lap,List.length_take,hvl,hcl];omega
    rw [this];simp [List.append_assoc]
theorem flat_el {sz:Nat}:∀ (vs:List Value),(∀ v ∈ vs,v.cells.size=sz)->(vs.flatMap fun v=>v.cells.toList).length=vs.length*sz/\∀ (i:Nat) (v:Value),vs[i]? = some v->((vs.flatMap fun v=>v.cells.toList).drop (i*sz)).take sz=v.cells.toList
 | [],_=>⟨by simp,nofun⟩
 | u :: vs,h=>by
   obtain ⟨h1,h2⟩:=flat_el vs fun v hv=>h v (by simp [hv])
   have hu:u.cells.toList.length=sz:=by simpa using h u (by simp)
   refine ⟨by simp only [List.flatMap_cons,lap,h1,hu,List.length_cons,Nat.succ_mul];omega,fun i v hi=>?_⟩
   match i,hi with
   | 0,hi=>simp at hi;subst hi;simp only [List.flatMap_cons,Nat.zero_mul,List.drop_zero];exact List.take_left' hu
   | i+1,hi =>
     have:=h2 i v (by simpa using hi);simp only [List.flatMap_cons,Nat.succ_mul]
     have e:i*sz+sz=u.cells.toList.length+i*sz:=by omega
     rw [e,List.drop_append,ddl (by omega),List.nil_append,Nat.add_sub_cancel_left];exact this
theorem litD_ok (H:TyOK P Γ) (R:RelM c nt M st a w) {t n:Nat} {ds:List D} {vs:List Value} {K:D->St->Prop} (h:litD Γ st t n ds K) (hv:RdT M false ds vs) (parts:Array (Nat × Value)) (hp:parts.toList=(vs.zipIdx 0).map fun x=>(x.2,x.1)) :
 ∃ d st' v M' w',K d st'/\RelM c nt M' st' a w'/\Rd M' false d v/\(Instr.buildSlice t n parts).run P w = .ok v w':=by
 unfold litD at h;split at h
 ·rename_i e hk;obtain ⟨i0,d0,z0,hi0,hu0,_,_,_,_,_,hkc0⟩:=H.ok hk (by simp)
  cases d0<;>simp only [kchk,bft] at hkc0
  have hkc0:=by simpa using hkc0
  subst hkc0;split at h
  ·rename_i hsz hln hble;obtain ⟨_,hne,_⟩:=szB_of H hsz;have hln:=nbq hln;have hble:=Nat.le_of_ble_eq_true hble;obtain ⟨cs,h,hl,hall,hsel⟩:=chunks_of ds vs _ hv h
   have hvn:vs.length=n:=by
    have:∀ (ds:List D) (vs:List Value),RdT M false ds vs->ds.length=vs.length:=by
     intro ds
     induction ds with
     | nil=>intro vs h;cases vs<;>simp_all [RdT]
     | cons d ds ih=>intro vs h;cases vs with
       | nil=>simp [RdT] at h
       | cons v vs=>simp only [RdT] at h;simp [ih vs h.2]
    rw [<-this ds vs hv];exact hln
   rcases H e with hbad | hok
   ·exact absurd hbad.2 hne
   ·obtain ⟨ie,de,ze,hie,_,hse,hbe,hze,hzc,_,_⟩:=hok.ex
    obtain ⟨cells,hfill,hcl⟩:=fill_seq (Γ.get e).size vs 0 (if n*(Γ.get e).size=0 then #[] else ((Array.range (n*(Γ.get e).size)).map (ze.cells[· % ze.cells.size]!))) (by
     rw [Nat.zero_add,hvn];split
     ·rename_i h0;simp [h0]
     ·simp) hall
    simp only [Nat.zero_mul,List.take_zero,List.nil_append] at hcl;obtain ⟨f1,f2⟩:=flat_el vs hall;rw [<-hcl] at f1
    have hcs:cells.size=n*(Γ.get e).size:=by rw [<-hvn];simpa using f1
    obtain ⟨M',R',hr,hle⟩:=R.arr (cs:=cells) (e:=e) (sz:=(Γ.get e).size) (k:=n) (cap:=n) (f:=fun i=>selC cs i) (Nat.le_refl _) (by
     have:n<=n*(Γ.get e).size:=Nat.le_mul_of_pos_right _ (by omega)
     unfold maxLen;omega) hcs (fun i hi=>by
      have hi' : i<vs.length:=by omega
      have hgi:vs[i]? = some vs[i]:=by simp [hi']
      have hsel':=hsel i _ hgi;rw [hcl,f2 i _ hgi]
      exact hsel') (fun u hu=>by
      have hu':=List.mem_of_mem_take hu;rw [hcl] at hu';obtain ⟨v,hv1,hv2⟩:=List.mem_flatMap.1 hu';obtain ⟨i,hi⟩:=List.mem_iff_getElem?.1 hv1
      exact (hsel i v hi).one u hv2) (w':=w.alloc (.cells cells e)) rfl rfl rfl rfl
    refine ⟨_,_,_,M',_,h,R',hr,?_⟩
    have hgt:¬ (n*(Γ.get e).size > 2 ^ 24):=by
     have:(2:Nat) ^ 24=16777216:=by decide
     omega
    have hfill' : Instr.fill (fun i=>some (i*(Γ.get e).size,(Γ.get e).size)) ((Array.range (n*(Γ.get e).size)).map ((if n*(Γ.get e).size=0 then #[] else ze.cells)[· % (if n*(Γ.get e).size=0 then #[] else ze.cells).size]!)) parts.toList=some cells:=by
     rw [hp];rw [<-hfill]
     congr 1
     split
     ·rename_i h0;simp [h0]
     ·rfl
    simp only [Instr.buildSlice,Sem.run_bind,run_underlying hu0,Result.andThen_ok,run_sizeOf hie,hse];rw [if_neg hgt];by_cases h0:n*(Γ.get e).size=0
    ·simp only [h0,if_true] at hfill' ⊢;simp only [Sem.run_bind,Sem.run_pure,Result.andThen_ok,hfill'];simp [newRow]
    ·have hz:(zeroValue e).run P w = .ok ze w:=by simp [zeroValue,typeInfo,hie,hze]
     simp only [h0,if_false] at hfill' ⊢;simp only [Sem.run_bind,Sem.run_pure,Result.andThen_ok,hz,hfill'];simp [newRow]
  ·exact h.elim
 ·exact h.elim
end
end Sx
namespace Sx
open Go
section
variable {P:Program} {Γ:Ty} {c:Cx P} {nt:Nt} {M:Mi} {st:St} {a:Act} {w:World}
theorem zero_el {z:Array Value} {n i:Nat} (rest:Array Value) (hi:i<n):(((Builtin.zeroCells z n ++ rest).toList.drop (i*z.size)).take z.size)=z.toList:=by
 apply List.ext_getElem?;intro j
 have hi' : i*z.size+z.size<=n*z.size:=by rw [<-Nat.succ_mul];exact Nat.mul_le_mul_right _ hi
 by_cases hj:j<z.size
 ·rw [List.getElem?_take,if_pos hj,List.getElem?_drop,Array.getElem?_toList]
  have h1:i*z.size+j<n*z.size:=by omega
  have h2:(i*z.size+j) % z.size=j:=by rw [Nat.mul_comm,Nat.mul_add_mod];exact Nat.mod_eq_of_lt hj
  rw [Array.getElem?_append_left (by rw [size_zeroCells];exact h1)];simp only [Builtin.zeroCells,Array.getElem?_map];rw [Array.getElem?_range,if_pos h1];simp [h2,hj]
 ·rw [List.getElem?_eq_none (by simp;omega),List.getElem?_eq_none (by simp;omega)]
def appzD (Γ:Ty) (st:St) (t t' : Nat) (s x:D) (K:D->St->Prop):Prop :=
 match (Γ.get t).k,(Γ.get t').k,s,x with
 | .slice e,.int _,.nil,.int _ n=>match Nat.ble 1 (Γ.get e).bytes with
   | true=>cellsD (Γ.get e).zero fun z=>match szB Γ e z.length,immL z with
     | true,true=>Vc (1<=n/\n*(Γ.get e).bytes<=140737488355328) (st.on fun e_ s_ k_=>K (.own k_) ⟨e_,upd s_ k_ (.arr e z.length n.toNat fun _=>z),k_+1⟩)| _,_=>False
   | false=>False
 | _,_,_,_=>False
theorem appzD_ok (H:TyOK P Γ) (R:RelM c nt M st a w) {t t' ty:Nat} {s x:D} {v y:Value} {K:D->St->Prop} (h:appzD Γ st t t' s x K) (hs:Rd M false s v) (hx:Rd M false x y) :
 ∃ d st' v' M' w',K d st'/\RelM c nt M' st' a w'/\Rd M' false d v'/\(Builtin.append_ #[t,t'] ty #[v,y]).run P w = .ok v' w':=by
 unfold appzD at h;split at h
 case h_2=>exact h.elim
 rename_i e k1 k2 n hk hk';simp only [Rd] at hs hx;subst hs hx;obtain ⟨i0,d0,z0,hi0,hu0,_,_,_,_,_,hkc0⟩:=H.ok hk (by simp)
 cases d0<;>simp only [kchk,bft] at hkc0
 have hkc0:=by simpa using hkc0
 subst hkc0;obtain ⟨i1,d1,z1,hi1,hu1,_,_,_,_,_,hkc1⟩:=H.ok hk' (by simp)
 cases d1<;>simp only [kchk,bft] at hkc1
 split at h
 case h_2=>exact h.elim
 rename_i hby;have hby:=Nat.le_of_ble_eq_true hby
 rcases H e with hbad | hok
 ·exfalso;unfold cellsD at h;split at h
  ·split at h
   ·rename_i hs _;have:=(szB_of H hs).1;have:=(szB_of H hs).2.1;have:=hbad.2;omega
   ·exact h.elim
  ·split at h
   ·split at h
    ·rename_i hs _;have:=(szB_of H hs).1;have:=(szB_of H hs).2.1;have:=hbad.2;omega
    ·exact h.elim
   ·exact h.elim
 ·obtain ⟨ie,de,ze,hie,hue,hse,hbe,hze,hzc,hzk,_⟩:=hok.ex;obtain ⟨z,h,hz⟩:=cellsD_of (M:=M) h (zchk_rd hzk);split at h
  ·rename_i hs him;obtain ⟨hs1,hs2,_,_,_⟩:=szB_of H hs;obtain ⟨⟨h1,hb⟩,h⟩:=h
   have hzl:z.length=ze.cells.size:=by have:=hz.length;simpa using this
   obtain ⟨m,rfl⟩:∃ m:Nat,n=m:=⟨n.toNat,(Int.toNat_of_nonneg (by omega)).symm⟩
   have hb' : m*(Γ.get e).bytes<=140737488355328:=by
    have e1:((m*(Γ.get e).bytes:Nat):Int)=(m:Int)*((Γ.get e).bytes:Int):=Int.natCast_mul _ _;omega
   have hm:m<=140737488355328:=Nat.le_trans (Nat.le_mul_of_pos_right _ hby) hb'
   have hpos:0<ze.cells.size:=by omega
   have hrun:=Lib.run_append_nil_zeros (P:=P) w t t' ty e ie ze k2 _ hu0 hu1 hie hze m (by omega) (by omega) (by omega) (by rw [hbe];omega);have hge:=grownCap_ge w m 0 e
   obtain ⟨M',R',hr,hle⟩:=R.arr (cs:=Builtin.zeroCells ze.cells m ++ Builtin.zeroCells ze.cells (grownCap w m 0 e - m)) (e:=e) (sz:=z.length) (k:=m) (cap:=grownCap w m 0 e) (f:=fun _=>z) hge (grownCap_le_maxLen w m 0 e (by unfold maxLen;omega))
    (by rw [Array.size_append,size_zeroCells,size_zeroCells,hzl,<-Nat.add_mul];congr 1;omega) (fun i hi=>by rw [hzl,zero_el _ hi];exact hz.immL him) (fun u hu=>by
      have hmem:∀ (k:Nat) (u:Value),u ∈ (Builtin.zeroCells ze.cells k).toList->u ∈ ze.cells.toList:=fun k u hu=>by
       obtain ⟨q,hq⟩:=List.mem_iff_getElem?.1 hu;rw [Array.getElem?_toList] at hq;simp only [Builtin.zeroCells,Array.getElem?_map] at hq;obtain ⟨r,_,hr⟩:=Option.map_eq_some_iff.1 hq;rw [<-hr];have:r % ze.cells.size<ze.cells.size:=Nat.mod_lt _ hpos;simp [this]
      have hu':=List.mem_of_mem_take hu;rw [Array.toList_append] at hu'
      rcases List.mem_append.1 hu' with hu' | hu'
      ·exact hz.one u (hmem _ u hu')
      ·exact hz.one u (hmem _ u hu')) (w':=w.drew.alloc (.cells (Builtin.zeroCells ze.cells m ++ Builtin.zeroCells ze.cells (grownCap w m 0 e - m)) e)) rfl rfl rfl rfl
   exact ⟨_,_,_,M',_,h,R',hr,hrun⟩
  ·exact h.elim
def shrinkD (Γ:Ty) (st:St) (t m:Nat) (h:D) (K:D->St->Prop):Prop :=
 match (Γ.get t).k with
 | .slice e=>match st.sto m with
   | .arr e' sz k f=>match szB Γ e sz,h with
     | true,.int _ n=>Vc (0<=n/\n<=k) (st.on fun e_ s_ k_=>K (.own m) ⟨fun t=>D.sub m .any (e_ t),upd (fun j=>(s_ j).sub m .any) m (.arr e' sz n.toNat f),k_⟩)| _,_=>False
   | _=>False
 | _=>False
theorem shrinkD_ok (H:TyOK P Γ) (R:RelM c nt M st a w) {t m:Nat} {h:D} {v y:Value} {K:D->St->Prop} (hk:shrinkD Γ st t m h K) (hv:Rd M false (.own m) v) (hy:Rd M false h y) :
 ∃ d st' v' M',K d st'/\RelM c nt M' st' a w/\Rd M' false d v'/\(Instr.sliceAt t v none (some y) none).run P w = .ok v' w:=by
 unfold shrinkD at hk;split at hk
 case h_2=>exact hk.elim
 rename_i e hkk;obtain ⟨i0,d0,z0,hi0,hu0,_,_,_,_,_,hkc0⟩:=H.ok hkk (by simp)
 cases d0<;>simp only [kchk,bft] at hkc0
 have hkc0:=by simpa using hkc0
 subst hkc0;split at hk
 case h_2=>exact hk.elim
 rename_i e' sz k f hs;split at hk
 case h_2=>exact hk.elim
 rename_i kk n hsz;obtain ⟨_,hsz0,j,hj,hjs⟩:=szB_of H hsz;obtain ⟨⟨h0,h1⟩,hK⟩:=hk;simp only [Rd] at hv hy;subst hy;obtain ⟨_,hm,rfl,_⟩:=hv;have hbx:=R.mem.box m hm;rw [hs] at hbx;obtain ⟨xs,o1,o2,o3,o4⟩:=hbx
 have hn:n.toNat<=k:=by omega
 have hle:n.toNat*sz<=k*sz:=Nat.mul_le_mul_right _ hn
 obtain ⟨v',hrun,hob,hown⟩:∃ v',(Instr.sliceAt t (M.hv m) none (some (.int kk n)) none).run P w = .ok v' w/\v'.ownBlock=(M.hv m).ownBlock/\OwnsH M.h e' sz v' n.toNat (xs.take (n.toNat*sz)):=by
  rcases o1.2 with ⟨hnil,hn0⟩ | ⟨g,cap,cur,hg,hblk,hnc,hcm,hcs,ht⟩
  ·have hn0' : n=0:=by omega
   subst hn0' hn0;have hb:=run_bounds (P:=P) (isS:=true) (len:=0) (cap:=0) (lo:=none) (hi:=some (.int kk 0)) (xl:=none) (xh:=some (.int kk 0)) (l:=0) (h:=0) (.inl ⟨rfl,rfl,rfl⟩) (.inr ⟨kk,rfl,rfl⟩) (by omega) (by omega) (by omega) (by omega) w;refine ⟨.slice none 0 0,?_,by rw [hnil],by simp,.inl ⟨rfl,rfl⟩⟩;rw [hnil];simp only [Instr.sliceAt,Sem.run_bind,run_underlying hu0,Result.andThen_ok,Instr.slice,hb,Sem.run_pure,run_sizeOf hj];simp
  ·have hb:=run_bounds (P:=P) (isS:=true) (len:=k) (cap:=cap) (lo:=none) (hi:=some (.int kk n)) (xl:=none) (xh:=some (.int kk n)) (l:=0) (h:=n) (.inl ⟨rfl,rfl,rfl⟩) (.inr ⟨kk,rfl,rfl⟩) (by omega) h0 h1 hnc w;refine ⟨.slice (some ⟨g,0,none⟩) n.toNat cap,?_,by rw [hg];rfl,?_,.inr ⟨g,cap,cur,rfl,hblk,by omega,hcm,hcs,?_⟩⟩
   ·rw [hg];simp only [Instr.sliceAt,Sem.run_bind,run_underlying hu0,Result.andThen_ok,Instr.slice,hb,Sem.run_pure,run_sizeOf hj]
    by_cases hc0:cap=0<;>simp [hc0,Addr.add_lit]
   ·rw [List.length_take,o1.1];omega
   ·rw [<-ht,List.take_take];congr 1;omega
 have hle0:M.LeBut { M with ρ:=upd M.ρ m v'.ownBlock,hv:=upd M.hv m v' } m:=⟨fun _ h=>h,fun _ _=>rfl,Nat.le_refl _,fun _ _ hn=>upd_ne _ _ hn,fun _ _ hn=>upd_ne _ _ hn,fun _ _ _=>rfl⟩
 obtain ⟨hm2,hle2⟩:=R.mem.rehome (n:=m) (by rw [hs];simp) (by rw [hs];rfl) v'.ownBlock v' M.h (Nat.le_refl _) (fun _ _ _=>rfl) (fun b hb=>.inl (by rw [o2,<-hob];exact hb)) (.arr e' sz n.toNat f) (by
  refine ⟨xs.take (n.toNat*sz),by simpa [upd_self] using hown,by simp [upd_self],fun i hi=>?_,fun u hu=>o4 u (List.mem_of_mem_take hu)⟩
  have hi' : i*sz+sz<=n.toNat*sz:=by rw [<-Nat.succ_mul];exact Nat.mul_le_mul_right _ hi
  have e0:((xs.take (n.toNat*sz)).drop (i*sz)).take sz=(xs.drop (i*sz)).take sz:=by
   rw [List.drop_take,List.take_take];congr 1;omega
  rw [e0]
  exact RdL.mono hle0.im _ _ (o3 i (by omega)))
 refine ⟨_,_,v',{ M with ρ:=upd M.ρ m v'.ownBlock,hv:=upd M.hv m v' },hK,⟨R.h,R.nx,hm2,fun t=>Rd.sub hle2 (fun im _=>by simp [Rd]) _ _ _ (R.env t),R.sz,R.defs,R.os,R.tape,R.output⟩,?_,hrun⟩;obtain ⟨ad',cap',he,_⟩:=ownsH_len hown;simp only [Rd,upd_self];exact ⟨trivial,hm,trivial,ad',_,cap',he⟩
def capD (Γ:Ty) (t:Nat) (a:D) (K:D->Prop):Prop :=
 match (Γ.get t).k,a with
 | .slice _,.nil=>K (.int .i64 0)| .slice _,.rsl _ _ _ _ cp=>K (.int .i64 cp)| _,_=>False
theorem capD_ok (H:TyOK P Γ) {t ty:Nat} {a:D} {v:Value} {K:D->Prop} (h:capD Γ t a K) (hv:Rd M false a v) (w:World):∃ d y,K d/\Rd M false d y/\(Builtin.cap_ #[t] ty #[v]).run P w = .ok y w:=by
 unfold capD at h;split at h
 ·rename_i hk;obtain ⟨i,d,z,hi,hu,_,_,_,_,_,hkc⟩:=H.ok hk (by simp)
  cases d<;>simp only [kchk,bft] at hkc
  simp only [Rd] at hv;subst hv;exact ⟨_,_,h,rfl,by simp [Builtin.cap_,run_underlying hu,goInt]⟩
 ·rename_i hk;obtain ⟨i,d,z,hi,hu,_,_,_,_,_,hkc⟩:=H.ok hk (by simp)
  cases d<;>simp only [kchk,bft] at hkc
  simp only [Rd] at hv;obtain ⟨_,_,b,_,rfl⟩:=hv;exact ⟨_,_,h,rfl,by simp [Builtin.cap_,run_underlying hu,goInt]⟩
 ·exact h.elim
end
end Sx
namespace Sx
open Go
section
variable {P:Program} {Γ:Ty} {c:Cx P} {nt:Nt} {M:Mi} {st:St} {a:Act} {w:World}
theorem RelM.freezeL (R:RelM c nt M st a w) {m sz k:Nat} {f:Nat->List D} (hml:st.sto m≠.dead) (hl:leD st.sto 1 (.own m) [] fun d us=>d = .tab sz k f/\us = [m]) (hlen:∃ ad cap,M.hv m = .slice ad k cap) :
 ∃ M',RelM c nt M' ⟨fun t=>D.sub m (.tab sz k f) (st.env t),upd (fun j=>(st.sto j).sub m (.tab sz k f)) m .dead,st.nxt⟩ a w/\(∀ v,Rd M false (.own m) v->Rd M' false (.tab sz k f) v)/\∀ d v,Rd M false d v->Rd M' false (D.sub m (.tab sz k f) d) v:=by
 have hm:=R.mem.lt hml;have hle:M.LeBut { M with S:=fun b=>M.S b\/M.O m b } m:=⟨fun _ h=>.inl h,fun _ _=>rfl,Nat.le_refl _,fun _ _ _=>rfl,fun _ _ _=>rfl,fun _ _ _=>rfl⟩
 have hrd:∀ v,Rd M false (.own m) v->Rd { M with S:=fun b=>M.S b\/M.O m b } true (.tab sz k f) v:=fun v hv=>by
  obtain ⟨d',us',⟨h1,h2⟩,_,h3⟩:=leD_ok R.mem 1 (.own m) v [] (fun d us=>d = .tab sz k f/\us = [m]) hv hl;subst h1 h2
  have:=h3 (fun b=>M.S b\/M.O m b) (fun _ h=>.inl h) (fun n hn b _ hb=>by
   simp only [List.mem_singleton] at hn;subst hn;exact .inr hb)
  exact Rd.mono (M:=MiS (fun b=>M.S b\/M.O m b) M.h) (M':={ M with S:=fun b=>M.S b\/M.O m b }) ⟨fun _ h=>h,fun _ _=>rfl,by simp,by simp,by simp,by simp⟩ _ _ this
 have hx:∀ im,im=false->Rd { M with S:=fun b=>M.S b\/M.O m b } im (.tab sz k f) (M.hv m):=fun im _=>Rd.im _ _ im (hrd _ (by
  simp only [Rd];obtain ⟨ad,cap,h⟩:=hlen
  exact ⟨trivial,hm,trivial,ad,k,cap,h⟩))
 refine ⟨{ M with S:=fun b=>M.S b\/M.O m b },?_,fun v hv=>Rd.im _ _ _ (hrd v hv),fun d v hv=>Rd.sub hle hx d v false hv⟩
 have live:∀ j,upd (fun j=>(st.sto j).sub m (.tab sz k f)) m .dead j≠.dead->j≠m/\st.sto j≠.dead:=fun j hj=>by
  by_cases e:j=m
  ·subst e;rw [upd_self] at hj;exact absurd rfl hj
  ·rw [upd_ne _ _ e] at hj;exact ⟨e,Box.sub_live.1 hj⟩
 refine ⟨R.h,R.nx,⟨R.mem.size,R.mem.frame,fun b hb=>?_,fun b hb=>?_,fun n hn=>?_,fun n hn=>?_,fun n j b h1 h2=>R.mem.injO n j b (live n h1).2 (live j h2).2,fun n b h1 h2 h3=>?_,fun n b h1=>R.mem.frO n b (live n h1).2,fun n h1 hf=>R.mem.non n (live n h1).2 (by
  dsimp only at hf
  rw [upd_ne _ _ (live n h1).1,Box.sub_fam] at hf;exact hf)⟩,fun t=>Rd.sub hle hx _ _ _ (R.env t),R.sz,R.defs,R.os,R.tape,R.output⟩
 ·rcases hb with hb | hb
  ·exact R.mem.Slt b hb
  ·exact R.mem.bltO hml hb
 ·rcases hb with hb | hb
  ·exact R.mem.Sold b hb
  ·exact .inr (R.mem.frO m b hml hb)
 ·by_cases e:n=m
  ·subst e;dsimp only;rw [upd_self];trivial
  ·dsimp only;rw [upd_ne _ _ e]
   exact (R.mem.box n hn).sub hle hx hn e fun _ _=>rfl
 ·have e:n≠m:=fun e=>by subst e;exact absurd hm (Nat.not_lt.2 hn)
  dsimp only;rw [upd_ne _ _ e];have:=R.mem.dead n hn
  show (st.sto n).sub m _=_
  rw [this];rfl
 ·obtain ⟨e,h1⟩:=live n h1
  rcases h3 with h3 | h3
  ·exact R.mem.sepO n b h1 h2 h3
  ·exact e (R.mem.injO n m b h1 hml h2 h3)
theorem RelM.freeze (R:RelM c nt M st a w) {m e sz k:Nat} {f:Nat->List D} (hs:st.sto m = .arr e sz k f\/st.sto m = .oar e sz k f) :
 ∃ M',RelM c nt M' ⟨fun t=>D.sub m (.tab sz k f) (st.env t),upd (fun j=>(st.sto j).sub m (.tab sz k f)) m .dead,st.nxt⟩ a w/\(∀ v,Rd M false (.own m) v->Rd M' false (.tab sz k f) v)/\∀ d v,Rd M false d v->Rd M' false (D.sub m (.tab sz k f) d) v:=by
 have hml:st.sto m≠.dead:=by rcases hs with hs | hs<;>(rw [hs];simp)
 refine R.freezeL hml (by rcases hs with hs | hs<;>(simp only [leD,hs];exact ⟨trivial,trivial⟩)) ?_;have hb:=R.mem.box m (R.mem.lt hml)
 rcases hs with hs | hs
 ·rw [hs] at hb;obtain ⟨xs,o1,_⟩:=hb;obtain ⟨ad,cap,h,_⟩:=ownsH_len o1;exact ⟨ad,cap,h⟩
 ·rw [hs] at hb;obtain ⟨xs,o1,_⟩:=hb;obtain ⟨ad,cap,h,_⟩:=ownsO_len o1;exact ⟨ad,cap,h⟩
theorem RelM.freezeF (R:RelM c nt M st a w) {m e sz k:Nat} {f:Nat->List D} (hs:st.sto m = .fam e sz k f) :
 ∃ M',RelM c nt M' ⟨fun t=>D.sub m (.tab sz k fun i=>rddL (f i)) (st.env t),upd (fun j=>(st.sto j).sub m (.tab sz k fun i=>rddL (f i))) m .dead,st.nxt⟩ a w/\(∀ v,Rd M false (.own m) v->Rd M' false (.tab sz k fun i=>rddL (f i)) v)/\∀ d v,Rd M false d v->Rd M' false (D.sub m (.tab sz k fun i=>rddL (f i)) d) v:=by
 have hml:st.sto m≠.dead:=by rw [hs];simp
 refine R.freezeL hml (by simp only [leD,hs];exact ⟨trivial,trivial⟩) ?_;have hb:=R.mem.box m (R.mem.lt hml);rw [hs] at hb;obtain ⟨xs,Fs,o1,_⟩:=hb;obtain ⟨ad,cap,h,_⟩:=ownsH_len o1;exact ⟨ad,cap,h⟩
def cutD (Γ:Ty) (st:St) (t m:Nat) (lo hi:Option D) (K:D->St->Prop):Prop :=
 match st.sto m with
 | .arr _ sz k f=>sliceD Γ t (.tab sz k f) lo hi fun d=>st.on fun e_ s_ k_=>K d ⟨fun t=>D.sub m (.tab sz k f) (e_ t),upd (fun j=>(s_ j).sub m (.tab sz k f)) m .dead,k_⟩
 | .oar e' sz k f=>match hi,lo,(Γ.get t).k with
   | none,some (.int _ n),.slice e=>match szB Γ e sz with
     | true=>Vc (0<=n/\n<=k) (st.on fun e_ s_ k_=>K (.own m) ⟨fun t=>D.sub m .any (e_ t),upd (fun j=>(s_ j).sub m .any) m (.oar e' sz (k - n.toNat) fun i=>f (i+n.toNat)),k_⟩)| false=>False
   | _,_,_=>False
 | _=>False
theorem tail_ok (H:TyOK P Γ) (R:RelM c nt M st a w) {t m e e' sz k:Nat} {f:Nat->List D} {v:Value} {kk:IntKind} {n:Int} {K:D->St->Prop} (hkk:(Γ.get t).k = .slice e) (hs:st.sto m = .oar e' sz k f) (hsz:szB Γ e sz=true) (h0:0<=n) (h1:n<=k)
 (hK:K (.own m) ⟨fun t=>D.sub m .any (st.env t),upd (fun j=>(st.sto j).sub m .any) m (.oar e' sz (k - n.toNat) fun i=>f (i+n.toNat)),st.nxt⟩) (hv:Rd M false (.own m) v) :
 ∃ d st' v' M',K d st'/\RelM c nt M' st' a w/\Rd M' false d v'/\(Instr.sliceAt t v (some (.int kk n)) none none).run P w = .ok v' w:=by
 obtain ⟨i0,d0,z0,hi0,hu0,_,_,_,_,_,hkc0⟩:=H.ok hkk (by simp)
 cases d0<;>simp only [kchk,bft] at hkc0
 have hkc0:=by simpa using hkc0
 subst hkc0;obtain ⟨_,hsz0,j,hj,hjs⟩:=szB_of H hsz;simp only [Rd] at hv;obtain ⟨_,hm,rfl,_⟩:=hv;have hbx:=R.mem.box m hm;rw [hs] at hbx;obtain ⟨xs,o1,o2,o3,o4⟩:=hbx
 have hn:n.toNat<=k:=by omega
 have hxl:=o1.1;have hsub:(k - n.toNat)*sz=k*sz - n.toNat*sz:=Nat.sub_mul ..;have hle:n.toNat*sz<=k*sz:=Nat.mul_le_mul_right _ hn
 obtain ⟨v',hrun,hob,hown⟩:∃ v',(Instr.sliceAt t (M.hv m) (some (.int kk n)) none none).run P w = .ok v' w/\v'.ownBlock=(M.hv m).ownBlock/\OwnsO M.h e' sz v' (k - n.toNat) (xs.drop (n.toNat*sz)):=by
  rcases o1.2 with ⟨hnil,hn0⟩ | ⟨g,o,cap,cur,hg,hblk,hnc,hcm,hcs,ht⟩
  ·have hn0' : n=0:=by omega
   subst hn0' hn0;have hb:=run_bounds (P:=P) (isS:=true) (len:=0) (cap:=0) (lo:=some (.int kk 0)) (hi:=none) (xl:=some (.int kk 0)) (xh:=none) (l:=0) (h:=0) (.inr ⟨kk,rfl,rfl⟩) (.inl ⟨rfl,rfl,rfl⟩) (by omega) (by omega) (by omega) (by omega) w;refine ⟨.slice none 0 0,?_,by rw [hnil],by simp [hxl],.inl ⟨rfl,rfl⟩⟩;rw [hnil];simp only [Instr.sliceAt,Sem.run_bind,run_underlying hu0,Result.andThen_ok,Instr.slice,hb,Sem.run_pure,run_sizeOf hj];simp
  ·have hb:=run_bounds (P:=P) (isS:=true) (len:=k) (cap:=cap) (lo:=some (.int kk n)) (hi:=none) (xl:=some (.int kk n)) (xh:=none) (l:=n) (h:=k) (.inr ⟨kk,rfl,rfl⟩) (.inl ⟨rfl,rfl,rfl⟩) (by omega) h1 (by omega) hnc w;by_cases hc0:cap=n.toNat
   ·refine ⟨.slice (some ⟨g,o,none⟩) (k - n.toNat) (cap - n.toNat),?_,by rw [hg];rfl,?_,.inr ⟨g,o,cap - n.toNat,cur,rfl,hblk,by omega,by omega,?_,?_⟩⟩
    ·rw [hg];simp only [Instr.sliceAt,Sem.run_bind,run_underlying hu0,Result.andThen_ok,Instr.slice,hb,Sem.run_pure,run_sizeOf hj];simp [hc0]
    ·rw [List.length_drop,hxl,hsub]
    ·rw [hc0,Nat.sub_self];omega
    ·have:k - n.toNat=0:=by omega
     have hkn:k=n.toNat:=by omega
     rw [this,Nat.zero_mul,List.take_zero,ddl (by rw [hxl,hkn];exact Nat.le_refl _)]
   ·refine ⟨.slice (some ⟨g,o+n.toNat*sz,none⟩) (k - n.toNat) (cap - n.toNat),?_,by rw [hg];rfl,?_,.inr ⟨g,o+n.toNat*sz,cap - n.toNat,cur,rfl,hblk,by omega,by omega,?_,?_⟩⟩
    ·rw [hg];simp only [Instr.sliceAt,Sem.run_bind,run_underlying hu0,Result.andThen_ok,Instr.slice,hb,Sem.run_pure,run_sizeOf hj,hjs];simp [hc0,Addr.add_lit]
    ·rw [List.length_drop,hxl,hsub]
    ·have e1:(cap - n.toNat)*sz=cap*sz - n.toNat*sz:=Nat.sub_mul ..;have e2:n.toNat*sz<=cap*sz:=Nat.mul_le_mul_right _ (by omega);omega
    ·rw [<-ht,List.drop_take,List.drop_drop,hsub]
 have hle0:M.LeBut { M with ρ:=upd M.ρ m v'.ownBlock,hv:=upd M.hv m v' } m:=⟨fun _ h=>h,fun _ _=>rfl,Nat.le_refl _,fun _ _ hn=>upd_ne _ _ hn,fun _ _ hn=>upd_ne _ _ hn,fun _ _ _=>rfl⟩
 obtain ⟨hm2,hle2⟩:=R.mem.rehome (n:=m) (by rw [hs];simp) (by rw [hs];rfl) v'.ownBlock v' M.h (Nat.le_refl _) (fun _ _ _=>rfl) (fun b hb=>.inl (by rw [o2,<-hob];exact hb)) (.oar e' sz (k - n.toNat) fun i=>f (i+n.toNat)) (by
  refine ⟨xs.drop (n.toNat*sz),by simpa [upd_self] using hown,by simp [upd_self],fun i hi=>?_,fun u hu=>o4 u (List.mem_of_mem_drop hu)⟩;rw [List.drop_drop,<-Nat.add_mul,Nat.add_comm]
  exact RdL.mono hle0.im _ _ (o3 (i+n.toNat) (by omega)))
 refine ⟨_,_,v',{ M with ρ:=upd M.ρ m v'.ownBlock,hv:=upd M.hv m v' },hK,⟨R.h,R.nx,hm2,fun t=>Rd.sub hle2 (fun im _=>by simp [Rd]) _ _ _ (R.env t),R.sz,R.defs,R.os,R.tape,R.output⟩,?_,hrun⟩;obtain ⟨ad',cap',he,_⟩:=ownsO_len hown;simp only [Rd,upd_self];exact ⟨trivial,hm,trivial,ad',_,cap',he⟩
theorem optD_int {o:Option D} {d:Int} {K:Int->Prop} (h:optD o d K):∀ y,o=some y->∃ k n,y = .int k n:=by
 intro y hy;subst hy;unfold optD at h;split at h
 ·rename_i e;cases e
 ·rename_i k n e;cases e;exact ⟨k,n,rfl⟩
 ·exact h.elim
theorem sliceD_int {t:Nat} {a:D} {lo hi:Option D} {K:D->Prop} (h:sliceD Γ t a lo hi K):(∀ y,lo=some y->∃ k n,y = .int k n)/\∀ y,hi=some y->∃ k n,y = .int k n:=by
 have key:∀ {d d' : Int} {K:Int->Int->Prop},(optD lo d fun l=>optD hi d' fun h=>K l h)->(∀ y,lo=some y->∃ k n,y = .int k n)/\∀ y,hi=some y->∃ k n,y = .int k n:=fun {d d' K} h=>by
  refine ⟨optD_int h,?_⟩;unfold optD at h;split at h
  ·exact optD_int h
  ·exact optD_int h
  ·exact h.elim
 unfold sliceD at h;split at h
 ·split at h
  ·exact key (K:=fun _ _=>_) h
  ·exact h.elim
 ·split at h
  ·split at h
   ·exact key (K:=fun _ _=>_) h
   ·exact h.elim
  ·split at h
   ·exact key (K:=fun _ _=>_) h
   ·exact h.elim
  ·exact h.elim
 ·split at h
  ·split at h
   ·exact key (K:=fun _ _=>_) h
   ·exact h.elim
  ·exact h.elim
 ·exact h.elim
theorem cutD_ok (H:TyOK P Γ) (R:RelM c nt M st a w) {t m:Nat} {lo hi:Option D} {v:Value} {xl xh:Option Value} {K:D->St->Prop} (hk:cutD Γ st t m lo hi K) (hv:Rd M false (.own m) v)
 (hl:∀ y,lo=some y->∃ x,xl=some x/\Rd M false y x) (hl' : lo=none->xl=none) (hh:∀ y,hi=some y->∃ x,xh=some x/\Rd M false y x) (hh' : hi=none->xh=none) :
 ∃ d st' v' M',K d st'/\RelM c nt M' st' a w/\Rd M' false d v'/\(Instr.sliceAt t v xl xh none).run P w = .ok v' w:=by
 unfold cutD at hk;split at hk
 case h_3=>exact hk.elim
 case h_2 =>
  rename_i e' sz k f hs;split at hk
  case h_2=>exact hk.elim
  rename_i kk n e hkk;split at hk
  case h_2=>exact hk.elim
  rename_i hsz;obtain ⟨⟨h0,h1⟩,hK⟩:=hk;obtain ⟨x,hx,hr⟩:=hl _ rfl;simp only [Rd] at hr;subst hr;rw [hx,hh' rfl];exact tail_ok H R hkk hs hsz h0 h1 hK hv
 rename_i e sz k f hs;obtain ⟨M',R',hrd,_⟩:=R.freeze (.inl hs);have hi:=sliceD_int hk
 have mv:∀ (o:Option D) (x:Option Value),(∀ y,o=some y->∃ k n,y = .int k n)->(∀ y,o=some y->∃ u,x=some u/\Rd M false y u)->∀ y,o=some y->∃ u,x=some u/\Rd M' false y u:=fun o x h1 h2 y hy=>by
  obtain ⟨kk,n,rfl⟩:=h1 y hy;obtain ⟨u,hu,hr⟩:=h2 _ hy;exact ⟨u,hu,by simpa [Rd] using hr⟩
 obtain ⟨d,v',hK,hr,hrun⟩:=sliceD_ok (Kp:=fun w'=>w' = w) H hk (hrd v hv) (mv lo xl hi.1 hl) hl' (mv _ xh hi.2 hh) hh';exact ⟨d,_,v',M',hK,R',hr,hrun w rfl⟩
def ownsD:Nat->D->List Nat->List Nat
 | 0,_,us=>us
 | n+1,d,us=>match d with
   | .own m=>m :: us| .agg l=>go n l us| .tup l=>go n l us| _=>us
where
 go (n:Nat):List D->List Nat->List Nat
  | [],us=>us| d :: l,us=>go n l (ownsD n d us)
def frzN:List Nat->St->(St->Prop)->Prop
 | [],st,K=>K st
 | m :: l,st,K=>match st.sto m with
   | .arr _ sz k f=>st.on fun e_ s_ k_=>frzN l ⟨fun t=>D.sub m (.tab sz k f) (e_ t),upd (fun j=>(s_ j).sub m (.tab sz k f)) m .dead,k_⟩ K
   | .oar _ sz k f=>st.on fun e_ s_ k_=>frzN l ⟨fun t=>D.sub m (.tab sz k f) (e_ t),upd (fun j=>(s_ j).sub m (.tab sz k f)) m .dead,k_⟩ K
   | .fam _ sz k f=>st.on fun e_ s_ k_=>frzN l ⟨fun t=>D.sub m (.tab sz k fun i=>rddL (f i)) (e_ t),upd (fun j=>(s_ j).sub m (.tab sz k fun i=>rddL (f i))) m .dead,k_⟩ K
   | _=>frzN l st K
theorem frzN_ok:∀ (l:List Nat) (st:St) (M:Mi) (K:St->Prop),RelM c nt M st a w->frzN l st K->∃ st' M',K st'/\RelM c nt M' st' a w
 | [],st,M,K,R,h=>⟨st,M,h,R⟩
 | m :: l,st,M,K,R,h=>by
   simp only [frzN] at h;split at h
   ·rename_i e sz k f hs;obtain ⟨M',R',_⟩:=R.freeze (.inl hs);exact frzN_ok l _ M' K R' h
   ·rename_i e sz k f hs;obtain ⟨M',R',_⟩:=R.freeze (.inr hs);exact frzN_ok l _ M' K R' h
   ·rename_i e sz k f hs;obtain ⟨M',R',_⟩:=R.freezeF hs;exact frzN_ok l _ M' K R' h
   ·exact frzN_ok l _ M K R h
def frzA:List Nat->List D->St->(List D->St->Prop)->Prop
 | [],args,st,K=>K args st
 | m :: l,args,st,K=>match st.sto m with
   | .arr _ sz k f=>st.on fun e_ s_ k_=>frzA l (D.subL m (.tab sz k f) args) ⟨fun t=>D.sub m (.tab sz k f) (e_ t),upd (fun j=>(s_ j).sub m (.tab sz k f)) m .dead,k_⟩ K
   | .oar _ sz k f=>st.on fun e_ s_ k_=>frzA l (D.subL m (.tab sz k f) args) ⟨fun t=>D.sub m (.tab sz k f) (e_ t),upd (fun j=>(s_ j).sub m (.tab sz k f)) m .dead,k_⟩ K
   | .fam _ sz k f=>st.on fun e_ s_ k_=>frzA l (D.subL m (.tab sz k fun i=>rddL (f i)) args) ⟨fun t=>D.sub m (.tab sz k fun i=>rddL (f i)) (e_ t),upd (fun j=>(s_ j).sub m (.tab sz k fun i=>rddL (f i))) m .dead,k_⟩ K
   | _=>frzA l args st K
theorem subL_rd {M M' : Mi} {n:Nat} {x:D} (h:∀ d v,Rd M false d v->Rd M' false (D.sub n x d) v):∀ (l:List D) (vs:List Value),RdT M false l vs->RdT M' false (D.subL n x l) vs
 | [],[],_=>by simp [D.subL,RdT]
 | d :: l,v :: vs,hr=>by
   simp only [RdT,D.subL] at hr ⊢;exact ⟨h d v hr.1,subL_rd h l vs hr.2⟩
 | [],_ :: _,hr=>by simp [RdT] at hr
 | _ :: _,[],hr=>by simp [RdT] at hr
theorem frzA_ok {g:FuncId} {K:D->St->Prop}:∀ (l:List Nat) (args:List D) (st:St),(frzA l args st fun args st=>CallOK P g args st K)->CallOK P g args st K
 | [],args,st,h=>h
 | m :: l,args,st,h=>by
   simp only [frzA] at h;split at h
   ·rename_i e sz k f hs;have h1:=frzA_ok l _ _ h;refine ⟨h1.fn,fun c nt M a w vs R hv=>?_⟩;obtain ⟨M',R',_,hsub⟩:=R.freeze (.inl hs);exact h1.ok c nt M' a w vs R' (subL_rd hsub args vs.toList hv)
   ·rename_i e sz k f hs;have h1:=frzA_ok l _ _ h;refine ⟨h1.fn,fun c nt M a w vs R hv=>?_⟩;obtain ⟨M',R',_,hsub⟩:=R.freeze (.inr hs);exact h1.ok c nt M' a w vs R' (subL_rd hsub args vs.toList hv)
   ·rename_i e sz k f hs;have h1:=frzA_ok l _ _ h;refine ⟨h1.fn,fun c nt M a w vs R hv=>?_⟩;obtain ⟨M',R',_,hsub⟩:=R.freezeF hs;exact h1.ok c nt M' a w vs R' (subL_rd hsub args vs.toList hv)
   ·exact frzA_ok l args st h
theorem CallOK.ctF {g:FuncId} {args:List D} {st:St} {K:D->St->Prop} (h:frzA (ownsD.go 3 args []) args st fun args st =>
 lesL (leD st.sto 6) args [] fun ds ls=>Met P g ds fun r _=>lentOK ls r (st.on fun e_ s_ k_=>adD r s_ k_ fun d s n=>K d ⟨e_,s,n⟩)):CallOK P g args st K:=by
 have key:∀ (l:List Nat) (args:List D) (st:St) (A B:List D->St->Prop),(∀ args st,A args st->B args st)->frzA l args st A->frzA l args st B:=by
  intro l
  induction l with
  | nil=>intro args st A B hab h;exact hab _ _ h
  | cons m l ih =>
    intro args st A B hab h;simp only [frzA] at h ⊢;split at h
    ·exact ih _ _ _ _ hab h
    ·exact ih _ _ _ _ hab h
    ·exact ih _ _ _ _ hab h
    ·exact ih _ _ _ _ hab h
 exact frzA_ok _ _ _ (key _ _ _ _ _ (fun _ _=>CallOK.of_ct) h)
end
end Sx
namespace Sx
open Go
section
variable {P:Program} {Γ:Ty} {c:Cx P} {nt:Nt} {M:Mi} {st:St} {a:Act} {w:World}
def ByS (n:Nat) (f:Nat->List D) (s:List UInt8):Prop:=s.length=n/\∀ i,i<n->f i = [.int .u8 (s.getD i 0).toNat]
def bconvD (Γ:Ty) (st:St) (src dst:Nat) (a:D) (K:D->St->Prop):Prop :=
 match (Γ.get src).k,(Γ.get dst).k with
 | .slice e,.str=>match (Γ.get e).k with
   | .int .u8=>match a with
     | .nil=>K (.str []) st
     | a=>srcD st.sto a fun sz m g=>match Nat.beq sz 1 with
       | true=>Lf (ByS m g) fun s=>K (.str s) st
       | false=>False
   | _=>False
 | _,_=>False
theorem byS_news {m:Nat} {g:Nat->List D} {s:List UInt8} (h:ByS m g s) {news:List Value} (hl:news.length=m*1) (el:∀ i,i<m->RdL M true (g i) ((news.drop (i*1)).take 1)) :
 news=(s.map fun b=>(b.toNat:Int)).map (Value.int .u8):=by
 apply List.ext_getElem?;intro i;by_cases hi:i<m
 ·have h1:=el i hi;rw [h.2 i hi,Nat.mul_one] at h1
  have hn:i<news.length:=by omega
  rw [List.drop_eq_getElem_cons hn] at h1;simp only [List.take_succ_cons,List.take_zero,RdL,Rd] at h1;rw [List.getElem?_eq_getElem hn,h1.2.1]
  have hs:i<s.length:=by rw [h.1];exact hi
  simp [hs]
 ·rw [List.getElem?_eq_none (by omega),List.getElem?_eq_none (by simp [h.1];omega)]
theorem bytes_map (s:List UInt8):List.map ((fun n:Int=>UInt8.ofNat n.toNat) ∘ fun b:UInt8=>(b.toNat:Int)) s=s:=by
 conv=>rhs;rw [<-List.map_id s]
 exact List.map_congr_left fun b _=>by simp
theorem bconvD_ok (H:TyOK P Γ) (R:RelM c nt M st a w) {src dst:Nat} {x:D} {v:Value} {K:D->St->Prop} (h:bconvD Γ st src dst x K) (hx:Rd M false x v) :
 ∃ d y,K d st/\Rd M false d y/\(convert src dst v).run P w = .ok y w:=by
 unfold bconvD at h;split at h
 case h_2=>exact h.elim
 rename_i e hk hk';obtain ⟨i0,d0,z0,hi0,hu0,_,_,_,_,_,hkc0⟩:=H.ok hk (by simp)
 cases d0<;>simp only [kchk,bft] at hkc0
 have hkc0:=by simpa using hkc0
 subst hkc0;obtain ⟨i1,d1,z1,hi1,hu1,_,_,_,_,_,hkc1⟩:=H.ok hk' (by simp)
 cases d1<;>simp only [kchk,bft] at hkc1
 split at h
 case h_2=>exact h.elim
 rename_i hke;obtain ⟨i2,d2,z2,hi2,hu2,_,_,_,_,_,hkc2⟩:=H.ok hke (by simp)
 cases d2<;>simp only [kchk,bft] at hkc2
 have hkc2:=by simpa using hkc2
 subst hkc2;split at h
 ·simp only [Rd] at hx;subst hx;exact ⟨_,_,h,rfl,run_convert_bytes_nil w src _ hu0 hu2 0 0 dst hu1⟩
 ·obtain ⟨sz,m,g,news,h,hsrc⟩:=srcD_of R.mem h hx;split at h
  case h_2=>exact h.elim
  rename_i he;have he:=nbq he;subst he;obtain ⟨s,hs,hk⟩:=h.ok;obtain ⟨ad,cap,rfl,hm,hnw⟩:=hsrc.ex;refine ⟨_,_,hk,rfl,?_⟩
  cases ad with
  | none =>
    have hm0:=hm rfl;subst hm0;have:s = []:=List.eq_nil_of_length_eq_zero hs.1;subst this;exact run_convert_bytes_nil w src _ hu0 hu2 0 cap dst hu1
  | some b =>
    have hn:=byS_news hs hsrc.len hsrc.el;have hl:=run_loadCells_list (P:=P) w b news (fun j u hj=>hnw b rfl w R.keep j u hj);rw [hn] at hl
    have hll:((s.map fun b=>(b.toNat:Int)).map (Value.int .u8)).length=m:=by simp [hs.1]
    rw [hll] at hl;rw [run_convert_bytes_string w src dst _ _ m cap hu0 hu2 hu1,run_bytesToString w _ m cap _ hl,foldl_push_bytes];rw [List.map_map,bytes_map];simp [ByteArray.empty,ByteArray.emptyWithCapacity];rfl
theorem run_appends (t t' ty e:Nat) (i:TypeInfo) (ht:P.underlying t=some (.slice e)) (ht' : P.underlying t' = some .string) (hi:P.info? e=some i) (hz:i.zero=some (.int .u8 0)) (hs1:i.size=1) (hby:i.bytes=1)
 (v:Value) (n:Nat) (xs:List Value) (hown:OwnsH w.heap e 1 v n xs) (s:ByteArray) (hb:n+s.size<=140737488355328) :
 ∃ v' w',(Builtin.append_ #[t,t'] ty #[v,.string s]).run P w = .ok v' w'/\OwnsH w'.heap e 1 v' (n+s.size) (xs ++ Lib.strCells s)/\w'.os=w.os/\w'.tape=w.tape/\w'.output=w.output/\w.heap.size<=w'.heap.size /\
   (∀ k,k<w.heap.size->v.ownBlock≠some k->w'.heap[k]? = w.heap[k]?)/\(∀ b,v'.ownBlock=some b->v.ownBlock=some b\/w.heap.size<=b):=by
 have hxl:xs.length=n:=by simpa using hown.1
 have hlen:(xs ++ Lib.strCells s).length=(n+s.size)*1:=by rw [lap,hxl,Lib.strCells_length,Nat.mul_one]
 have hz1:(Value.int IntKind.u8 0).cells.size=1:=rfl
 rcases hown.2 with ⟨rfl,rfl⟩ | ⟨g,cap,cur,rfl,hg,hnc,hcm,hcs,htake⟩
 ·obtain ⟨v',w',hrun,ho,hgr,hnil⟩:=Lib.run_append_own_string (P:=P) (w:=w) w.heap.size t t' ty e i ht ht' hi hz hs1 hby (.slice none 0 0) 0 xs ⟨hown.1,.inl ⟨rfl,rfl⟩⟩ s (by unfold maxLen;omega) (by omega) (Nat.le_refl _);refine ⟨v',w',hrun,.of_row ho,hgr.os,hgr.tape,hgr.output,hgr.size,fun k hk hne=>hgr.block k hk (fun e=>hne e.symm),fun b hb=>.inr ?_⟩
  rcases ho.2 with ⟨rfl,_⟩ | ⟨g,cap,cur,rfl,hge,_⟩
  ·simp [Value.ownBlock] at hb
  ·simp only [Value.ownBlock,Option.some.injEq] at hb;omega
 ·have hcs' : cur.size=cap:=by simpa using hcs
  have ht2:cur.toList.take n=xs:=by simpa using htake
  by_cases hroom:n+s.size<=cap
  ·have hr:=Lib.run_append_room_string (P:=P) (w:=w) t t' ty e i ht ht' hi hs1 g n cap cur hg s hroom (by omega);refine ⟨_,_,hr,⟨hlen,.inr ⟨g,cap,_,rfl,setRow_heap w g cur _ e _ hg,hroom,hcm,?_,?_⟩⟩,rfl,rfl,rfl,by simp [World.setRow],fun k _ hk=>setRow_other w g k _ (fun e=>hk (by simp [Value.ownBlock,e])),fun b hb=>.inl hb⟩
   ·simp only [List.size_toArray,lap,List.length_take,List.length_drop,Array.length_toList,Lib.strCells_length];omega
   ·rw [ht2,<-hlen];exact List.take_left
  ·have holds:∀ (j:Nat) (u:Value),xs[j]? = some u->w.cell? ((⟨g,0,none⟩:Addr).add j)=some u:=fun j u hj=>by
    rw [Addr.add_lit,cell?_at,Nat.zero_add,hown.cells rfl j (List.getElem?_eq_some_iff.1 hj).1];exact hj
   have hr:=Lib.run_append_grow_string (P:=P) (w:=w) t t' ty e i (.int .u8 0) ht ht' hi hz ⟨g,0,none⟩ n cap xs (by rw [hs1];simpa using hxl) holds s (by omega) (by omega) (by rw [hby];exact growslice_fits (by omega) (by omega));have hge:=grownCap_ge w (n+s.size) cap e;have hcm:grownCap w (n+s.size) cap e<=maxLen:=grownCap_le_maxLen w (n+s.size) cap e (by unfold maxLen;omega);refine ⟨_,_,hr,⟨hlen,.inr ⟨w.heap.size,_,_,rfl,heap_alloc_new w.drew _,hge,hcm,?_,?_⟩⟩,rfl,rfl,rfl,by simp,fun k hk _=>heap_alloc_old w.drew _ hk,fun b hb=>.inr (by simp only [Value.ownBlock,Option.some.injEq] at hb;omega)⟩
   ·simp only [Array.size_append,List.size_toArray,size_zeroCells,hz1,hxl,Lib.strCells_length];omega
   ·simp only [Array.toList_append,List.append_assoc];rw [<-List.append_assoc,<-hlen];exact List.take_left
def bytesF (u:List UInt8):Nat->List D:=fun i=>[.int .u8 (u.getD i 0).toNat]
def appsD (Γ:Ty) (st:St) (t t' : Nat) (s x:D) (K:D->St->Prop):Prop :=
 match (Γ.get t).k,(Γ.get t').k,x with
 | .slice e,.str,.str u=>match Nat.beq (Γ.get e).bytes 1,szB Γ e 1,(Γ.get e).zero with
   | true,true,.int .u8 z=>match decide (z=0),s with
     | true,.nil=>Vc (u.length<=140737488355328) (st.on fun e_ s_ k_=>K (.own k_) ⟨e_,upd s_ k_ (.arr e 1 u.length (bytesF u)),k_+1⟩)
     | true,.own n=>match st.sto n with
       | .arr e' sz k f=>match Nat.beq sz 1,Nat.beq e e' with
         | true,true=>Vc (k+u.length<=140737488355328)
           (st.on fun e_ s_ k_=>K (.own n) ⟨fun t=>D.sub n .any (e_ t),upd (fun m=>(s_ m).sub n .any) n (.arr e' 1 (k+u.length) fun i=>iteL (i<k) (f i) (bytesF u (i - k))),k_⟩)
         | _,_=>False
       | _=>False
     | _,_=>False
   | _,_,_=>False
 | _,_,_=>False
theorem strCells_el (u:List UInt8) {M:Mi} {im:Bool} (i:Nat) (hi:i<u.length):RdL M im (bytesF u i) (((Lib.strCells ⟨u.toArray⟩).drop (i*1)).take 1):=by
 have hl:(Lib.strCells ⟨u.toArray⟩).length=u.length:=by rw [Lib.strCells_length];rfl
 rw [Nat.mul_one,List.drop_eq_getElem_cons (by omega)];simp [bytesF,RdL,Rd,Lib.strCells,hi,Value.oneCell']
theorem appsD_ok (H:TyOK P Γ) (R:RelM c nt M st a w) {t t' ty:Nat} {s x:D} {v y:Value} {K:D->St->Prop} (h:appsD Γ st t t' s x K) (hs:Rd M false s v) (hx:Rd M false x y) :
 ∃ d st' v' M' w',K d st'/\RelM c nt M' st' a w'/\Rd M' false d v'/\(Builtin.append_ #[t,t'] ty #[v,y]).run P w = .ok v' w':=by
 unfold appsD at h;split at h
 case h_2=>exact h.elim
 rename_i e u hk hk';simp only [Rd] at hx;subst hx;obtain ⟨i0,d0,z0,hi0,hu0,_,_,_,_,_,hkc0⟩:=H.ok hk (by simp)
 cases d0<;>simp only [kchk,bft] at hkc0
 have hkc0:=by simpa using hkc0
 subst hkc0;obtain ⟨i1,d1,z1,hi1,hu1,_,_,_,_,_,hkc1⟩:=H.ok hk' (by simp)
 cases d1<;>simp only [kchk,bft] at hkc1
 split at h
 case h_2=>exact h.elim
 rename_i z hby hsz hze;have hby:=nbq hby;obtain ⟨hs1,_,_,_,_⟩:=szB_of H hsz
 rcases H e with hbad | hok
 ·omega
 obtain ⟨ie,de,ze,hie,hue,hse,hbe,hzi,hzc,hzk,_⟩:=hok.ex;have hzr:=zchk_rd (M:=M) (im:=false) hzk;rw [hze] at hzr;simp only [Rd] at hzr;subst hzr;have hsu:(⟨u.toArray⟩:ByteArray).size=u.length:=rfl
 have hszM:M.h.size=w.heap.size:=by rw [R.h]
 split at h
 ·rename_i hz
  have hz:z=0:=by simpa using hz
  simp only [Rd] at hs;subst hs;obtain ⟨hb,h⟩:=h;obtain ⟨v',w',hrun,hown,g1,g2,g3,g4,hold0,hblk0⟩:=run_appends (P:=P) (w:=w) t t' ty e ie hu0 hu1 hie (by rw [hzi,hz]) (by omega) (by omega) (.slice none 0 0) 0 [] ⟨by simp,.inl ⟨rfl,rfl⟩⟩ ⟨u.toArray⟩ (by rw [hsu];omega);rw [hsu] at hown;simp only [Nat.zero_add,List.nil_append] at hown
  have hblk:∀ b,v'.ownBlock=some b->w.heap.size<=b:=fun b hb=>(hblk0 b hb).resolve_left (by simp [Value.ownBlock])
  have hold:∀ b,b<w.heap.size->w'.heap[b]? = w.heap[b]?:=fun b hb=>hold0 b hb (by simp [Value.ownBlock])
  obtain ⟨H1,L1⟩:=R.mem.grow M.S w'.heap (by rw [hszM];exact g4) (fun b hb=>by rw [R.h];exact hold b (by omega)) (fun _ h=>h) (fun _ h=>.inl h);have hle:M.Le (({ M with h:=w'.heap }:Mi).give v'.ownBlock v') false:=⟨fun _ h=>h,L1.h,fun _=>Nat.le_succ _,fun _ n hn=>upd_ne _ _ (Nat.ne_of_lt hn),fun _ n hn=>upd_ne _ _ (Nat.ne_of_lt hn),fun _ n hn=>upd_ne _ _ (Nat.ne_of_lt hn)⟩
  have hm2:=H1.adopt v'.ownBlock v' (.arr e 1 u.length (bytesF u)) ⟨_,by simpa [Mi.give,upd_self] using hown,by simp [Mi.give,upd_self],fun i hi=>strCells_el u i hi,Lib.strCells_oneCell _⟩
   (fun b hb hS=>absurd (R.mem.Slt b hS) (by have:=hblk b hb;omega))
   (fun n b hb hd he=>absurd (R.mem.bltO hd he) (by have:=hblk b hb;omega))
   (fun b hb=>.inl (Nat.le_trans R.mem.size (by have:=hblk b hb;omega)))
  refine ⟨_,_,v',_,w',h,R.go hle (by rw [<-R.nx];exact hm2) rfl (by simp [Mi.give,R.nx]) g1 g2 g3,?_,hrun⟩;obtain ⟨ad',cap',he,_⟩:=ownsH_len hown;simp only [Rd,Mi.give,<-R.nx,upd_self];exact ⟨trivial,Nat.lt_succ_self _,trivial,ad',_,cap',he⟩
 ·rename_i n hz
  have hz:z=0:=by simpa using hz
  split at h
  case h_2=>exact h.elim
  rename_i e' sz k f hsto;split at h
  case h_2=>exact h.elim
  rename_i he1 he2;have he1:=nbq he1;have he2:=nbq he2;subst he1 he2;obtain ⟨hb,h⟩:=h;simp only [Rd] at hs;obtain ⟨_,hn,rfl,_⟩:=hs;have hbx:=R.mem.box n hn;rw [hsto] at hbx;obtain ⟨xs,o1,o2,o3,o4⟩:=hbx;rw [R.h] at o1;obtain ⟨v',w',hrun,hown,g1,g2,g3,g4,hold,hblk⟩:=run_appends (P:=P) (w:=w) t t' ty e ie hu0 hu1 hie (by rw [hzi,hz]) (by omega) (by omega) (M.hv n) k xs o1 ⟨u.toArray⟩ (by rw [hsu];exact hb);rw [hsu] at hown
  have hle0:M.LeBut { M with ρ:=upd M.ρ n v'.ownBlock,hv:=upd M.hv n v',h:=w'.heap } n :=
   ⟨fun _ h=>h,fun b hb=>by rw [R.h];exact hold b (by rw [<-hszM];exact R.mem.Slt b hb) (fun e=>R.mem.sep n b (by rw [hsto];simp) (by rw [o2];exact e) hb),Nat.le_refl _,fun m _ hm=>upd_ne _ _ hm,fun m _ hm=>upd_ne _ _ hm,fun _ _ _=>rfl⟩
  obtain ⟨hm2,hle⟩:=R.mem.rehome (n:=n) (by rw [hsto];simp) (by rw [hsto];rfl) v'.ownBlock v' w'.heap (by rw [hszM];exact g4) (fun b hb hne=>by rw [R.h];exact hold b (by omega) (by rw [<-o2];exact hne))
   (fun b hb=>by rw [o2,hszM];exact hblk b hb) (.arr e 1 (k+u.length) fun i=>iteL (i<k) (f i) (bytesF u (i - k))) (by
     refine ⟨_,by simpa [upd_self] using hown,by simp [upd_self],fun i hi=>?_,fun q hq=>?_⟩
     ·have hxl:xs.length=k:=by simpa using o1.1
      refine RdL.ite (fun hik=>?_) (fun hik=>?_)
      ·have:((xs ++ Lib.strCells ⟨u.toArray⟩).drop (i*1)).take 1=(xs.drop (i*1)).take 1:=by
        rw [List.drop_append_of_le_length (by omega),List.take_append_of_le_length (by simp;omega)]
       rw [this];exact RdL.mono hle0.im _ _ (o3 i hik)
      ·have e1:i*1=xs.length+(i - k)*1:=by omega
       have:((xs ++ Lib.strCells ⟨u.toArray⟩).drop (i*1)).take 1=((Lib.strCells ⟨u.toArray⟩).drop ((i - k)*1)).take 1:=by
        rw [e1,List.drop_append,ddl (by omega),List.nil_append,Nat.add_sub_cancel_left]
       rw [this];exact strCells_el u _ (by omega)
     ·rcases List.mem_append.1 hq with h | h
      ·exact o4 q h
      ·exact Lib.strCells_oneCell _ q h)
  refine ⟨_,_,v',{ M with ρ:=upd M.ρ n v'.ownBlock,hv:=upd M.hv n v',h:=w'.heap },w',h,⟨rfl,R.nx,hm2,fun t=>Rd.sub hle (fun im _=>by simp [Rd]) _ _ _ (R.env t),R.sz,R.defs,g1.trans R.os,g2.trans R.tape,g3.trans R.output⟩,?_,hrun⟩;obtain ⟨ad',cap',he,_⟩:=ownsH_len hown;simp only [Rd,upd_self];exact ⟨trivial,hn,trivial,ad',_,cap',he⟩
 ·exact h.elim
end
end Sx
namespace Sx
open Go
section
variable {P:Program} {Γ:Ty} {c:Cx P} {nt:Nt} {M:Mi} {st:St} {a:Act} {w:World}
def sdataD (Γ:Ty) (st:St) (ty:Nat) (x:D) (K:D->St->Prop):Prop :=
 match (Γ.get ty).k with
 | .ptr _=>match x with
   | .nil=>K .null st
   | .own m=>match st.sto m with
     | .arr _ sz k _=>Br (decide (1<=k)=true) (K (.pel m sz 0 0) st) (decide (1<=k)=false) (Two (K .null st) (Two (K (.pel m sz 0 0) st) (K (.ref []) st)))| _=>False
   | _=>False
 | _=>False
theorem sdataD_ok (H:TyOK P Γ) (R:RelM c nt M st a w) {t ty:Nat} {x:D} {v:Value} {K:D->St->Prop} (h:sdataD Γ st ty x K) (hx:Rd M false x v) :
 ∃ d st' y M' w',K d st'/\RelM c nt M' st' a w'/\Rd M' false d y/\(Builtin.unsafeSliceData_ #[t] ty #[v]).run P w = .ok y w':=by
 unfold sdataD at h;split at h
 case h_2=>exact h.elim
 rename_i e hk;obtain ⟨i0,d0,z0,hi0,hu0,_,_,_,_,_,hkc0⟩:=H.ok hk (by simp)
 cases d0<;>simp only [kchk,bft] at hkc0
 have hkc0:=by simpa using hkc0
 subst hkc0;split at h
 ·simp only [Rd] at hx;subst hx;exact ⟨_,_,_,M,w,h,R,rfl,Lib.run_unsafeSliceData_nil w _ _ _ _⟩
 ·rename_i m;split at h
  ·rename_i e' sz k f hs;simp only [Rd] at hx;obtain ⟨_,hm,rfl,_⟩:=hx;have hb:=R.mem.box m hm;rw [hs] at hb;obtain ⟨xs,o1,o2,_⟩:=hb
   have hp:∀ g n cap,M.hv m = .slice (some ⟨g,0,none⟩) n cap->Rd M false (.pel m sz 0 0) (.pointer (some ⟨g,0,none⟩)):=fun g n cap hv=>by
    simp only [Rd];exact ⟨trivial,hm,g,by rw [o2,hv];rfl,by simp [hoff,hv]⟩
   rcases o1.2 with ⟨hnil,hn0⟩ | ⟨g,cap,cur,hv,hg,hnc,hcm,hcs,ht⟩
   ·rw [hnil];exact ⟨_,_,_,M,w,(h.r (by simpa using hn0)).l,R,rfl,Lib.run_unsafeSliceData_nil w _ _ _ _⟩
   ·rw [hv];by_cases hk1:1<=k
    ·exact ⟨_,_,_,M,w,h.l (by simpa using hk1),R,hp g k cap hv,Lib.run_unsafeSliceData_row w _ _ _ _ _ (by omega)⟩
    ·have h2:=(h.r (by simpa using hk1)).r;by_cases hc0:cap=0
     ·subst hc0;rw [R.h] at hg
      have hsz:M.h.size=w.heap.size:=by rw [R.h]
      have hrun:=Lib.run_unsafeSliceData_zero (P:=P) w #[t] ty _ hu0 ⟨g,0,none⟩ k (e',cur.size) (by simp [World.shape?,hg])
      obtain ⟨H1,L1⟩:=R.mem.grow (fun b=>M.S b\/b=w.heap.size) (w.alloc (.view ⟨g,0,none⟩ e)).heap (by rw [hsz];simp) (fun b hb=>by rw [R.h];exact heap_alloc_old w _ (by omega)) (fun _ h=>.inl h) (fun b hb=>by
       rcases hb with hb | hb
       ·exact .inl hb
       ·right;subst hb;exact ⟨by omega,by simp⟩)
      exact ⟨_,_,_,{ M with S:=fun b=>M.S b\/b=w.heap.size,h:=(w.alloc (.view ⟨g,0,none⟩ e)).heap },_,h2.r,R.go L1 H1 rfl R.nx rfl rfl rfl,by
       simp only [Rd]
       exact ⟨_,0,rfl,.inr rfl,[],by simp [cellsAt],by simp [RdL]⟩,hrun⟩
     ·exact ⟨_,_,_,M,w,h2.l,R,hp g k cap hv,Lib.run_unsafeSliceData_row w _ _ _ _ _ hc0⟩
  ·exact h.elim
 ·exact h.elim
def ustrD (Γ:Ty) (st:St) (pt:Nat) (x n:D) (K:D->St->Prop):Prop :=
 match (Γ.get pt).k with
 | .ptr e=>match (Γ.get e).k,szB Γ e 1 with
   | .int .u8,true=>match x,n with
     | .null,.int .i64 z=>Vc (z=0) (K (.str []) st)| .ref _,.int .i64 z=>Vc (z=0) (K (.str []) st)
     | .pel m _ 0 0,.int .i64 z=>match st.sto m with
       | .arr e' sz k f=>match Nat.beq e' e,Nat.beq sz 1 with
         | true,true=>Vc (z=k) (Br (decide (1<=k)=true) (Lf (ByS k f) fun s=>st.on fun e_ s_ k_=>K (.str s) ⟨e_,upd s_ m .dead,k_⟩) (decide (1<=k)=false) (K (.str []) st))| _,_=>False
       | _=>False
     | _,_=>False
   | _,_=>False
 | _=>False
theorem ustrD_ok (H:TyOK P Γ) (R:RelM c nt M st a w) {pt it ty:Nat} {x n:D} {v u:Value} {K:D->St->Prop} (h:ustrD Γ st pt x n K) (hx:Rd M false x v) (hn:Rd M false n u) :
 ∃ d st' y M' w',K d st'/\RelM c nt M' st' a w'/\Rd M' false d y/\(Builtin.unsafeString_ #[pt,it] ty #[v,u]).run P w = .ok y w':=by
 unfold ustrD at h;split at h
 case h_2=>exact h.elim
 rename_i e hk;obtain ⟨i0,d0,z0,hi0,hu0,_,_,_,_,_,hkc0⟩:=H.ok hk (by simp)
 cases d0<;>simp only [kchk,bft] at hkc0
 have hkc0:=by simpa using hkc0
 subst hkc0;split at h
 case h_2=>exact h.elim
 rename_i hke hsz;obtain ⟨hs1,_,ie,hie,hies⟩:=szB_of H hsz;split at h
 ·simp only [Rd] at hx hn;subst hx hn;obtain ⟨rfl,h⟩:=h;exact ⟨_,_,_,M,w,h,R,rfl,Lib.run_unsafeString_none w _ _ _ _⟩
 ·simp only [Rd] at hx hn;obtain ⟨b,off,rfl,_⟩:=hx;subst hn;obtain ⟨rfl,h⟩:=h;exact ⟨_,_,_,M,w,h,R,rfl,Lib.run_unsafeString_none w _ _ _ _⟩
 ·rename_i m sz0 z;split at h
  case h_2=>exact h.elim
  rename_i e' sz k f hs;split at h
  case h_2=>exact h.elim
  rename_i he1 he2;have he1:=nbq he1;have he2:=nbq he2;subst he1 he2;simp only [Rd] at hx hn;obtain ⟨_,hm,g,hρ,rfl⟩:=hx;subst hn;obtain ⟨rfl,h⟩:=h
  have hmd:st.sto m≠.dead:=by rw [hs];simp
  by_cases hk1:1<=k
  ·obtain ⟨s,hsb,hK⟩:=(h.l (by simpa using hk1)).ok;have hb:=R.mem.box m hm;rw [hs] at hb;obtain ⟨xs,o1,o2,o3,o4⟩:=hb
   rcases o1.2 with ⟨_,hn0⟩ | ⟨g',cap,cur,hv,hg,hnc,hcm,hcs,ht⟩
   ·omega
   ·have hgg:g' = g:=by rw [o2,hv] at hρ;simpa [Value.ownBlock] using hρ
    subst hgg;have hn:=byS_news hsb o1.1 o3
    have hgw:w.heap[g']? = some (.cells cur e' (0,0)):=by rw [<-R.h];exact hg
    have hsl:=hsb.1
    have hcs' : cur.size=cap:=by simpa using hcs
    have hrun:=Lib.run_unsafeString_row (P:=P) w pt it ty e' hu0 (by unfold Program.cellsOf;rw [hie];simpa using hies) g' cur.size (by simp [World.shape?,hgw]) s (fun e=>by rw [e] at hsl;simp at hsl;omega) (by omega)
     (by unfold maxLen at hcm;omega) (fun j x hx=>by
       have hjs:j<s.length:=(List.getElem?_eq_some_iff.1 hx).1;rw [Addr.add_lit,cell?_at,Nat.zero_add,<-R.h,o1.cells (by rw [hv];rfl) j (by rw [hn];simpa using hjs),hn]
       simp [hx])
    rw [hsl] at hrun
    have hfz:(w.freeze ⟨g',0,none⟩ k).heap.size=w.heap.size:=by
     unfold World.freeze;split<;>simp
    have hfo:∀ b,b≠g'->(w.freeze ⟨g',0,none⟩ k).heap[b]? = w.heap[b]?:=fun b hb=>by
     unfold World.freeze;split
     ·rfl
     ·simp only [Array.getElem?_modify];rw [if_neg (Ne.symm hb)]
    have hos:(w.freeze ⟨g',0,none⟩ k).os=w.os/\(w.freeze ⟨g',0,none⟩ k).tape=w.tape/\(w.freeze ⟨g',0,none⟩ k).output=w.output:=by
     unfold World.freeze;split<;>exact ⟨rfl,rfl,rfl⟩
    have hszM:M.h.size=w.heap.size:=by rw [R.h]
    have live:∀ n,upd st.sto m .dead n≠.dead->n≠m/\st.sto n≠.dead:=fun n hn=>by
     by_cases e:n=m
     ·subst e;rw [upd_self] at hn;exact absurd rfl hn
     ·rw [upd_ne _ _ e] at hn;exact ⟨e,hn⟩
    obtain ⟨H1,L1⟩:=(R.mem.kill m).goOn M.S (w.freeze ⟨g',0,none⟩ k).heap [g'] (by omega) (fun b _ hb=>by rw [R.h];exact hfo b (by simpa using hb))
     (fun b hb=>by obtain rfl:b=g':=by simpa using hb
                   exact R.mem.sep m b hmd hρ)
     (fun b hb n hn he=>by
       obtain rfl:b=g':=by simpa using hb
       exact (live n hn).1 (R.mem.injO n m b (live n hn).2 hmd he (.inl hρ)))
     (fun b hb=>by obtain rfl:b=g':=by simpa using hb
                   exact R.mem.fresh m b hmd hρ)
     (fun b hb=>by obtain rfl:b=g':=by simpa using hb
                   exact R.mem.blt hmd hρ)
     (fun _ h=>h) (fun _ h=>.inl h)
    exact ⟨_,_,_,{ M with h:=(w.freeze ⟨g',0,none⟩ k).heap },_,hK,R.go L1 H1 rfl R.nx hos.1 hos.2.1 hos.2.2,rfl,by simpa [hoff,hv] using hrun⟩
  ·have hk0:k=0:=by omega
   subst hk0;exact ⟨_,_,_,M,w,h.r (by simp),R,rfl,Lib.run_unsafeString_none w _ _ _ _⟩
 ·exact h.elim
end
end Sx
namespace Sx
open Go
structure Cp (n:Nat) (K:Nat->Prop):Prop where
 ok:∀ q,n<=q->K q
section
variable {P:Program} {Γ:Ty} {c:Cx P} {nt:Nt} {M:Mi} {st:St} {a:Act} {w:World}
theorem RelM.drawn (R:RelM c nt M st a w):RelM c nt M st a w.drew:=⟨R.h,R.nx,R.mem,R.env,R.sz,R.defs,R.os,R.tape,R.output⟩
theorem two_parts {α:Type} (xs news rest:List α) (sz ln m i:Nat) (hx:xs.length=ln*sz) (hn:news.length=m*sz) (hi:i<ln+m) :
 (((xs ++ news ++ rest).drop (i*sz)).take sz)=if i<ln then (xs.drop (i*sz)).take sz else (news.drop ((i - ln)*sz)).take sz:=by
 split
 ·rename_i h
  have:i*sz+sz<=ln*sz:=by rw [<-Nat.succ_mul];exact Nat.mul_le_mul_right _ h
  rw [List.append_assoc,List.drop_append_of_le_length (by omega),List.take_append_of_le_length (by simp;omega)]
 ·rename_i h
  have e:i*sz=xs.length+(i - ln)*sz:=by rw [hx,<-Nat.add_mul];congr 1;omega
  have h2:(i - ln)*sz+sz<=m*sz:=by rw [<-Nat.succ_mul];exact Nat.mul_le_mul_right _ (by omega)
  rw [List.append_assoc,e,List.drop_append,ddl (by omega),List.nil_append,Nat.add_sub_cancel_left,List.drop_append_of_le_length (by omega),List.take_append_of_le_length (by simp;omega)]
theorem take_parts {α:Type} (l:List α) (sz ln i:Nat) (hi:i<ln):(((l.take (ln*sz)).drop (i*sz)).take sz)=(l.drop (i*sz)).take sz:=by
 have:i*sz+sz<=ln*sz:=by rw [<-Nat.succ_mul];exact Nat.mul_le_mul_right _ hi
 have:=seg_seg l 0 (ln*sz) (i*sz) sz this;simpa using this
end
end Sx
namespace Sx
open Go
section
variable {P:Program} {Γ:Ty} {c:Cx P} {nt:Nt} {M:Mi} {st:St} {a:Act} {w:World}
theorem RelM.blk (R:RelM c nt M st a w) {cs:Array Value} {e sz cap kn:Nat} {f:Nat->List D} (hk:kn<=cap) (hcm:cap<=maxLen) (hcs:cs.size=cap*sz)
 (hel:∀ i,i<kn->RdL M true (f i) ((cs.toList.drop (i*sz)).take sz)) :
 ∃ M',RelM c nt M' ⟨st.env,upd st.sto st.nxt (.blk e sz cap kn f),st.nxt+1⟩ a (w.alloc (.cells cs e))/\∀ ln cp,Rd M' false (.rsl st.nxt sz 0 ln cp) (.slice (some ⟨w.heap.size,0,none⟩) ln cp):=by
 obtain ⟨M',R',hr,hle⟩:=R.boxH (v:=.agg cs) (bx:=.blk e sz cap kn f) e (fun M' n b hle hh hρ hb=>⟨hh,b,cs,hρ,hb,hcs,hk,hcm,fun i hi=>RdL.mono hle.im _ _ (hel i hi)⟩);refine ⟨M',R',fun ln cp=>?_⟩;simp only [Rd] at hr ⊢;obtain ⟨h1,h2,b,h3,h4⟩:=hr;refine ⟨h1,h2,b,h3,?_⟩
 have:b=w.heap.size:=by simpa using h4.symm
 rw [this,Nat.zero_mul]
theorem elem_of (H:TyOK P Γ) {e sz:Nat} (h:szB Γ e sz=true):∃ ie ze,P.info? e=some ie/\ie.size=sz/\ie.bytes=(Γ.get e).bytes/\ie.zero=some ze/\ze.cells.size=sz/\0<sz/\zchk (Γ.get e).zero ze=true:=by
 obtain ⟨s1,s2,_⟩:=szB_of H h
 rcases H e with hbad | hok
 ·omega
 ·obtain ⟨ie,de,ze,hie,_,hse,hbe,hze,hzc,hzk,_⟩:=hok.ex;exact ⟨ie,ze,hie,by omega,hbe,hze,by omega,by omega,hzk⟩
theorem slice_of (H:TyOK P Γ) {t e:Nat} (h:(Γ.get t).k = .slice e):P.underlying t=some (.slice e):=by
 obtain ⟨i0,d0,z0,hi0,hu0,_,_,_,_,_,hkc0⟩:=H.ok h (by simp)
 cases d0<;>simp only [kchk,bft] at hkc0
 have hkc0:=by simpa using hkc0
 subst hkc0;exact hu0
end
end Sx
namespace Sx
open Go
section
variable {P:Program} {Γ:Ty} {c:Cx P} {nt:Nt} {M:Mi} {st:St} {a:Act} {w:World}
structure SrcK (M:Mi) (sz k:Nat) (g:Nat->List D) (v:Value) (news:List Value):Prop where
 ex:∃ ad m cap,v = .slice ad m cap/\k<=m/\(ad=none->k=0)/\∀ b,ad=some b->∀ (w:World),Keep M w->∀ (j:Nat) (u:Value),news[j]? = some u->w.cell? (b.add j)=some u
 len:news.length=k*sz
 el:∀ i,i<k->RdL M true (g i) ((news.drop (i*sz)).take sz)
 one:∀ u ∈ news,u.oneCell' = true
theorem over_parts {α:Type} (l news:List α) (sz off k i:Nat) (hn:news.length=k*sz) (hl:(off+k)*sz<=l.length) :
 ((((l.take (off*sz) ++ news ++ l.drop (off*sz+news.length)).drop (i*sz)).take sz)=if off<=i/\i<off+k then (news.drop ((i - off)*sz)).take sz else (l.drop (i*sz)).take sz):=by
 rw [Nat.add_mul] at hl
 have hx:(l.take (off*sz)).length=off*sz:=by simp;omega
 by_cases h1:i<off
 ·rw [if_neg (by omega)]
  have:i*sz+sz<=off*sz:=by rw [<-Nat.succ_mul];exact Nat.mul_le_mul_right _ h1
  rw [List.append_assoc,List.drop_append_of_le_length (by omega),List.take_append_of_le_length (by simp;omega),take_parts _ _ _ _ h1]
 ·by_cases h2:i<off+k
  ·rw [if_pos ⟨by omega,h2⟩,two_parts _ _ _ sz off k i hx hn h2,if_neg h1]
  ·rw [if_neg (by omega)];have e2:(off+k)*sz<=i*sz:=Nat.mul_le_mul_right _ (by omega);rw [Nat.add_mul] at e2
   have e:i*sz=(l.take (off*sz) ++ news).length+(i*sz - (off*sz+news.length)):=by rw [lap,hx,hn];omega
   rw [e,List.drop_append,ddl (by omega),List.nil_append,Nat.add_sub_cancel_left,List.drop_drop,<-e]
   congr 2
   rw [hn];omega
end
end Sx
namespace Sx
open Go
structure ExtOvl (P:Program) (g:FuncId):Prop where
 ex:∃ (fn:Func) (tS tR e:TypeId) (i:TypeInfo),P.funcs[g]? = some fn/\(fn.name == "runtime.NumGoroutine")=false/\fn.body.isNone=true/\Extern.findNext fn=none /\
  Extern.find fn=some (Extern.SlicesOverlaps.overlaps #[tS,tS] #[tR])/\P.underlying tS=some (.slice e)/\P.info? e=some i
structure Ovl (P:Program) (g:FuncId) (K:Prop):Prop where
 fn:ExtOvl P g
 k:K
section
variable {P:Program} {Γ:Ty} {c:Cx P} {nt:Nt} {M:Mi} {st:St} {a:Act} {w:World}
def callD (P:Program) (g:FuncId) (l:List D) (st:St) (K:D->St->Prop):Prop :=
 match l with
 | [.own j,.rsl n _ _ _ _]=>match st.sto j,st.sto n,Nat.beq j n with
   | .arr _ _ _ _,.blk _ s2 cap _ _,false=>Vc (0<cap*s2) (Ovl P g (K (.lit false) st))| _,_,_=>False
 | l=>CallOK P g l st K
theorem ovl_ok (R:RelM c nt M st a w) {g:FuncId} {j n sz off ln cp:Nat} {e1 s1 n1:Nat} {f1:Nat->List D} {e2 s2 c2 k2:Nat} {f2:Nat->List D} (hj:st.sto j = .arr e1 s1 n1 f1) (hn:st.sto n = .blk e2 s2 c2 k2 f2) (hne:j≠n) (hpos:0<c2*s2)
 (H:ExtOvl P g) {vs:Array Value} (hv:RdT M false [.own j,.rsl n sz off ln cp] vs.toList):(callFunc g vs).run P w = .ok (.value (.bool false)) w:=by
 obtain ⟨fn,tS,tR,e,i,h1,h2,h3,h4,h5,h6,h7⟩:=H.ex
 obtain ⟨x,y,hxy⟩:∃ x y,vs = #[x,y]:=by
  have:vs.toList.length=2:=by
   match hl:vs.toList,hv with
   | [_,_],_=>rfl| [],h=>simp [RdT] at h| [_],h=>simp [RdT] at h| _ :: _ :: _ :: _,h=>simp [RdT] at h
  match vs,this with
  | ⟨[x,y]⟩,_=>exact ⟨x,y,rfl⟩
 subst hxy;simp only [RdT,Rd] at hv;obtain ⟨⟨_,hjl,rfl,_⟩,⟨_,hnl,b,hρ,rfl⟩,_⟩:=hv
 have hz:∀ w,(Go.sizeOf e).run P w = .ok i.size w:=fun w=>by simp [Go.sizeOf,typeInfo,h7]
 rw [run_callFunc_extern h1 h2 h3 h4 h5];have hb1:=R.mem.box j hjl;rw [hj] at hb1;obtain ⟨xs,⟨o1,o2⟩,o3,_⟩:=hb1;have hb2:=R.mem.box n hnl;rw [hn] at hb2;obtain ⟨hz0,b',cs,p1,p2,p3,p4,p5,p6⟩:=hb2;rw [hρ] at p1;cases p1
 rcases o2 with ⟨hnil,_⟩ | ⟨bj,cap,cur,hs,hc,_⟩
 ·rw [hnil]
  have:(Extern.SlicesOverlaps.overlaps #[tS,tS] #[tR] #[.slice none 0 0,.slice (some ⟨b,off*sz,none⟩) ln cp]).run P w = .ok (.bool false) w:=by
   change Sem.run P (α:=Value) (do
    let some t:=(#[tS,tS]:Array TypeId)[0]? | stuck "slices.overlaps: no parameter types"
    let .slice elem <-underlying t | stuck "slices.overlaps: slice type expected"
    let size <-Go.sizeOf elem
    pure (Value.bool false)) w=_
   simp [run_underlying h6,hz]
  rw [this];rfl
 ·rw [hs]
  have hne' : bj≠b:=fun e=>by
   subst e;refine hne (R.mem.inj j n bj (by rw [hj];simp) (by rw [hn];simp) ?_ hρ);rw [o3,hs];rfl
  have g1:w.heap[bj]? = some (.cells cur e1 (0,0)):=by rw [<-R.h];exact hc
  have g2:w.heap[b]? = some (.cells cs e2 (0,0)):=by rw [<-R.h];exact p2
  rw [Lib.run_overlaps_apart w tS tR e h6 i.size hz ⟨bj,0,none⟩ ⟨b,off*sz,none⟩ n1 cap ln cp hne' e1 e2 cur.size cs.size (by simp [World.shape?,g1]) (by simp [World.shape?,g2]) (by omega) (by simp [World.frozen?,g1]) (by simp [World.frozen?,g1])];rfl
def rclrD (Γ:Ty) (st:St) (t:Nat) (s:D) (K:D->St->Prop):Prop :=
 match (Γ.get t).k with
 | .slice e=>match s with
   | .rsl n sz off ln _=>match st.sto n with
     | .blk _ sz' cap kn _=>cellsD (Γ.get e).zero fun zc=>match szB Γ e sz,Nat.beq sz sz',immL zc with
       | true,true,true=>Vc (off+ln<=cap/\kn<=off) (K (.tup []) st)| _,_,_=>False
     | _=>False
   | .tab _ 0 _=>K (.tup []) st| .nil=>K (.tup []) st| _=>False
 | _=>False
theorem rclrD_ok (H:TyOK P Γ) (R:RelM c nt M st a w) {t ty:Nat} {s:D} {v:Value} {K:D->St->Prop} (h:rclrD Γ st t s K) (hs:Rd M false s v) :
 ∃ d st' v' M' w',K d st'/\RelM c nt M' st' a w'/\Rd M' false d v'/\(Builtin.clear_ #[t] ty #[v]).run P w = .ok v' w':=by
 have tp:∀ M',Rd M' false (.tup []) (.tuple #[]):=fun M'=>by simp only [Rd];exact ⟨#[],rfl,by simp [RdT]⟩
 unfold rclrD at h;split at h
 case h_2=>exact h.elim
 rename_i e hk;have hu0:=slice_of H hk;split at h
 ·rename_i n sz off ln cp;split at h
  case h_2=>exact h.elim
  rename_i e' sz' cap kn f hsto;by_cases hsz:szB Γ e sz=true
  case neg =>
   exfalso;rw [show szB Γ e sz=false by simpa using hsz] at h;unfold cellsD at h;split at h
   ·exact h
   ·split at h
    ·exact h
    ·exact h
  obtain ⟨ie,ze,hie,hs1,hb1,hz1,hz2,hpos,hzk⟩:=elem_of H hsz;have h0:=cellsD_of (M:=M) h (zchk_rd hzk);clear h;obtain ⟨zc,h,hz⟩:=h0;split at h
  case h_2=>exact h.elim
  rename_i _ q1 him;have q1:=nbq q1;subst q1
  have h1c:∀ u ∈ (Builtin.zeroCells ze.cells ln).toList,u.oneCell' = true:=fun u hu=>by
   obtain ⟨j,hj⟩:=List.mem_iff_getElem?.1 hu
   have hjl:j<ln*sz:=by rw [<-hz2,<-size_zeroCells,<-Array.length_toList];exact (List.getElem?_eq_some_iff.1 hj).1
   have hi:j / sz<ln:=Nat.div_lt_of_lt_mul (by rw [Nat.mul_comm];exact hjl);have hel:=zero_el (z:=ze.cells) (n:=ln) (i:=j / sz) #[] hi;rw [Array.append_empty,hz2] at hel;refine (hz.immL him).one u (List.mem_of_getElem? (i:=j % sz) ?_);rw [<-hel,List.getElem?_take,if_pos (Nat.mod_lt _ hpos),List.getElem?_drop,Nat.mul_comm (j / sz) sz,Nat.div_add_mod];exact hj
  obtain ⟨⟨hcap,hoff⟩,h⟩:=h;simp only [Rd] at hs;obtain ⟨_,hn,b,hρ,rfl⟩:=hs;have hbx:=R.mem.box n hn;rw [hsto] at hbx;obtain ⟨hz0,b',cs,o1,o2,o3,o4,o5,o6⟩:=hbx;rw [hρ] at o1;cases o1
  have hog:w.heap[b]? = some (.cells cs e' (0,0)):=by rw [<-R.h];exact o2
  by_cases h0:ln=0
  ·subst h0;exact ⟨_,_,_,M,w,h,R,tp M,by simp [Builtin.clear_,run_underlying hu0]⟩
  ·have hzl:(Builtin.zeroCells ze.cells ln).toList.length=ln*sz:=by rw [Array.length_toList,size_zeroCells,hz2]
   have hfit:(off+ln)*sz<=cs.size:=by rw [o3];exact Nat.mul_le_mul_right _ hcap
   have hfit2:=hfit;rw [Nat.add_mul] at hfit2;have hst:=run_storeCells_at P b (off*sz) e' (Builtin.zeroCells ze.cells ln).toList 0 cs w hog (by rw [hzl];omega) h1c
   obtain ⟨M',R',hle⟩:=R.storeL (n:=n) (b:=b) (by rw [hsto];simp) (by rw [hsto]) hρ (cs:=(cs.toList.take (off*sz) ++ (Builtin.zeroCells ze.cells ln).toList ++ cs.toList.drop (off*sz+(Builtin.zeroCells ze.cells ln).toList.length)).toArray) o2
    (bx:=.blk e' sz cap kn f) fun M' hle hρ' hv' hb'=>⟨by rw [hv'];exact hz0,b,_,hρ',hb',by rw [List.size_toArray,lap,lap,List.length_take,List.length_drop,hzl,Array.length_toList];omega,o4,o5,fun i hi=>by
      rw [show ((cs.toList.take (off*sz) ++ (Builtin.zeroCells ze.cells ln).toList ++ cs.toList.drop (off*sz+(Builtin.zeroCells ze.cells ln).toList.length)).toArray).toList=cs.toList.take (off*sz) ++ (Builtin.zeroCells ze.cells ln).toList ++ cs.toList.drop (off*sz+(Builtin.zeroCells ze.cells ln).toList.length) from rfl];rw [over_parts _ _ sz off ln i hzl (by simpa using hfit),if_neg (by omega)]
      exact RdL.mono hle.im _ _ (o6 i hi)⟩
   have e0:upd st.sto n (.blk e' sz cap kn f)=st.sto:=by
    funext j
    by_cases e:j=n
    ·subst e;rw [upd_self,hsto]
    ·rw [upd_ne _ _ e]
   rw [e0] at R';refine ⟨_,_,_,M',_,h,R',tp M',?_⟩
   have hzv:(zeroValue e).run P w = .ok ze w:=by simp [zeroValue,typeInfo,hie,hz1]
   obtain ⟨ln',rfl⟩:∃ k,ln=k+1:=⟨ln - 1,by omega⟩;simp [-Array.toList_append,Builtin.clear_,run_underlying hu0,hzv,hst]
 ·simp only [Rd] at hs;obtain ⟨ad,cap,rfl,_⟩:=hs;exact ⟨_,_,_,M,w,h,R,tp M,by cases ad<;>simp [Builtin.clear_,run_underlying hu0]⟩
 ·simp only [Rd] at hs;subst hs;exact ⟨_,_,_,M,w,h,R,tp M,by simp [Builtin.clear_,run_underlying hu0]⟩
 ·exact h.elim
end
end Sx
namespace Sx
open Go
def caV (sto:Nat->Box):List D->List Nat->List Nat->(List D->List Nat->List Nat->Prop)->Prop
 | [],us,ls,K=>K [] us ls
 | d :: l,us,ls,K=>match d.gives with
   | true=>giA sto d us fun d us=>caV sto l us ls fun l us ls=>K (d :: l) us ls
   | false=>leD sto 6 d ls fun d ls=>caV sto l us ls fun l us ls=>K (d :: l) us ls
theorem caV_ex {sto:Nat->Box}:∀ (l:List D) (us ls:List Nat) (K:List D->List Nat->List Nat->Prop),caV sto l us ls K->∃ l' us' ls',K l' us' ls'
 | [],us,ls,K,h=>⟨[],us,ls,by simpa [caV] using h⟩
 | d :: l,us,ls,K,h=>by
   simp only [caV] at h;split at h
   ·obtain ⟨_,_,h⟩:=giA_ex h;obtain ⟨l',us',ls',h⟩:=caV_ex l _ _ _ h;exact ⟨_,_,_,h⟩
   ·obtain ⟨_,_,h⟩:=leD_ex _ _ _ _ h;obtain ⟨l',us',ls',h⟩:=caV_ex l _ _ _ h;exact ⟨_,_,_,h⟩
theorem caV_ok {Pc:Program} {c:Cx Pc} {M:Mi} {sto:Nat->Box} (HM:Mem c M sto):∀ (l:List D) (vs:List Value) (us ls:List Nat) (K:List D->List Nat->List Nat->Prop),RdT M false l vs->caV sto l us ls K ->
 ∃ l' us' ls' F,K l' us' ls'/\Gi M sto us us' F/\(∀ n ∈ ls,n ∈ ls')/\ioV l' vs = [] /\
   ∀ S',(∀ b,M.S b->S' b)->(∀ n ∈ ls',∀ b,sto n≠.dead->M.O n b->S' b)->OdT (MiS S' M.h) l' vs F
 | [],[],us,ls,K,_,h=>⟨[],us,ls,[],by simpa [caV] using h,.nil,fun _ h=>h,by simp [ioV],fun _ _ _=>by simp [OdT]⟩
 | d :: l,v :: vs,us,ls,K,hv,h=>by
   simp only [RdT] at hv;simp only [caV] at h;split at h
   ·obtain ⟨d',u1,F1,h,g1,r1,hio⟩:=giA_ok HM hv.1 h;obtain ⟨l',us',ls',F,h,g,s2,io,r2⟩:=caV_ok HM l vs u1 ls _ hv.2 h;refine ⟨_,us',ls',F1 ++ F,h,g1.append HM g,s2,by rw [hio];exact io,fun S' e1 e2=>?_⟩;simp only [OdT];exact ⟨F1,F,rfl,Od.mono (M:=M) (M':=MiS S' M.h) e1 (fun _ _=>rfl) _ _ _ r1 (fun _ _=>rfl),r2 S' e1 e2⟩
   ·obtain ⟨d',l1,h,s1,r1⟩:=leD_ok HM 6 d v ls _ hv.1 h;obtain ⟨l',us',ls',F,h,g,s2,io,r2⟩:=caV_ok HM l vs us l1 _ hv.2 h
    have hio:ioV (d' :: l') (v :: vs)=ioV l' vs:=by
     have hr:=r1 (fun _=>True) (fun _ _=>trivial) (fun _ _ _ _ _=>trivial)
     cases d'<;>simp only [ioV]<;>(simp [Rd] at hr)
    refine ⟨_,us',ls',F,h,g,fun n hn=>s2 n (s1 n hn),by rw [hio];exact io,fun S' e1 e2=>?_⟩;simp only [OdT];exact ⟨[],F,rfl,Od.of_rd _ _ (r1.mono s2 S' e1 e2),r2 S' e1 e2⟩
 | [],_ :: _,_,_,_,h,_=>by simp [RdT] at h
 | _ :: _,[],_,_,_,h,_=>by simp [RdT] at h
theorem CallOK.gv {P:Program} {g:FuncId} {args:List D} {st:St} {K:D->St->Prop}
 (h:caV st.sto args [] [] fun ds us ls=>disjM us ls (Met P g ds fun r _ =>
   lentOK ls r (st.on fun e_ s_ k_=>adD r (killN s_ us) k_ fun d s n=>K d ⟨e_,s,n⟩))):CallOK P g args st K:=by
 have hfn:FnOK P g:=by
  obtain ⟨ds,us,ls,hd⟩:=caV_ex _ _ _ _ h;obtain ⟨_,R,hc,_⟩:=disjM_of hd;exact hc.fn
 refine ⟨hfn,fun c nt M a w vs R hv=>?_⟩;obtain ⟨ds,us,ls,F,hdm,G,_,io,hod0⟩:=caV_ok R.mem args vs.toList [] [] _ hv h;obtain ⟨hdis,Rel,hct,hk⟩:=disjM_of hdm
 have hsz:M.h.size=w.heap.size:=by rw [R.h]
 have hargs:OdT (MiS (fun b=>M.S b\/∃ n,n ∈ ls/\st.sto n≠.dead/\M.O n b) w.heap) ds vs.toList F:=by
  rw [<-R.h];exact hod0 _ (fun b hb=>.inl hb) (fun n hn b hd hb=>.inr ⟨n,hn,hd,hb⟩)
 have hFS:∀ b ∈ F,¬ M.S b:=fun b hb=>by
  obtain ⟨n,_,_,n3,n4⟩:=G.at_ b hb;exact R.mem.sepO n b n3 n4
 have hFl:∀ b ∈ F,∀ n,killN st.sto us n≠.dead->¬ M.O n b:=fun b hb n hn he=>by
  obtain ⟨m,m1,_,m3,m4⟩:=G.at_ b hb;obtain ⟨h1,h2⟩:=killN_live hn;have:=R.mem.injO n m b h1 m3 he m4;subst this;exact h2 m1
 have hFf:∀ b ∈ F,c.w0.heap.size<=b\/c.W0 b:=fun b hb=>by
  obtain ⟨n,_,_,n3,n4⟩:=G.at_ b hb;exact R.mem.frO n b n3 n4
 have hFlt:∀ b ∈ F,b<w.heap.size:=fun b hb=>by
  obtain ⟨n,_,_,n3,n4⟩:=G.at_ b hb;rw [<-hsz];exact R.mem.bltO n3 n4
 refine (hct.ok w _ vs F (fun b hb=>?_) hargs G.nd ⟨fun b hb hs=>?_,R.laid hFf⟩).mono ?_
 ·rcases hb with hb | ⟨n,_,hd,hb⟩
  ·rw [<-hsz];exact R.mem.Slt b hb
  ·rw [<-hsz];exact R.mem.bltO hd hb
 ·rcases hs with hs | ⟨n,hn,hd,hs⟩
  ·exact hFS b hb hs
  ·obtain ⟨m,m1,_,m3,m4⟩:=G.at_ b hb;have:=R.mem.injO n m b hd m3 hs m4;subst this;exact disjN_of hdis n m1 hn
 ·rintro e w' ⟨v,r,outs,S1,F',rfl,hR,hB,hod⟩
  have hk1:(ls = []\/noSh r)/\adD r (killN st.sto us) st.nxt fun d s n=>K d ⟨st.env,s,n⟩:=by
   have h:=hk r outs hR;unfold lentOK at h;split at h
   ·exact ⟨.inl rfl,h⟩
   ·exact ⟨.inr h.1,h.2⟩
  obtain ⟨hl,hk1⟩:=hk1;simp only [OdT] at hod;obtain ⟨F1,F2,rfl,hod1,hod2⟩:=hod;rw [io] at hod2
  have hF2:F2 = []:=by
   cases outs with
   | nil=>simpa [OdT] using hod2| cons _ _=>simp [OdT] at hod2
  subst hF2
  obtain ⟨H1,L1⟩:=(R.mem.killN us).goOn (fun b=>M.S b\/(S1 b/\(w.heap.size<=b\/b ∈ F))) w'.heap F (by rw [hsz];exact hB.size) (fun b hb hF=>by rw [R.h];exact hB.old b (by omega) hF) hFS hFl hFf (fun b hb=>by rw [hsz] ;exact hFlt b hb)
   (fun b hb=>.inl hb) (fun b hb=>by
     rcases hb with h | ⟨h1,h2⟩
     ·exact .inl h
     ·rcases hB.Snew b h1 with h | h | h
      ·rcases h with h | ⟨n,hn,hd,h⟩
       ·exact .inl h
       ·exfalso
        rcases h2 with h2 | h2
        ·exact absurd (R.mem.bltO hd h) (by omega)
        ·obtain ⟨m,m1,_,m3,m4⟩:=G.at_ b h2;have:=R.mem.injO n m b hd m3 h m4;subst this;exact disjN_of hdis n m1 hn
      ·exact .inr (.inl ⟨by omega,h.2⟩)
      ·exact .inr (.inr h))
  have hSS:ls = []->∀ b,S1 b->M.S b\/(S1 b/\(w.heap.size<=b\/b ∈ F)):=fun hl b hb=>by
   rcases hB.Snew b hb with h | h | h
   ·rcases h with h | ⟨n,hn,_⟩
    ·exact .inl h
    ·subst hl;cases hn
   ·exact .inr ⟨hb,.inl h.1⟩
   ·exact .inr ⟨hb,.inr h⟩
  have hfree:Free c { M with S:=fun b=>M.S b\/(S1 b/\(w.heap.size<=b\/b ∈ F)),h:=w'.heap } (killN st.sto us) (F1 ++ []):=by
   refine ⟨hB.nd,fun b hb hs=>?_,fun b hb n hd he=>?_,fun b hb=>?_⟩
   ·rcases hs with h | h
    ·rcases hB.Fnew b hb with hF | hF
     ·exact hFS b hF h
     ·exact absurd (R.mem.Slt b h) (by omega)
    ·exact hB.FS b hb h.1
   ·rcases hB.Fnew b hb with hF | hF
    ·exact hFl b hF n hd he
    ·exact absurd ((R.mem.killN us).bltO hd he) (by omega)
   ·rcases hB.Fnew b hb with hF | hF
    ·exact hFf b hF
    ·exact .inl (Nat.le_trans R.mem.size (by omega))
  have hod1' : Od { M with S:=fun b=>M.S b\/(S1 b/\(w.heap.size<=b\/b ∈ F)),h:=w'.heap } r v F1:=by
   rcases hl with hl | hl
   ·exact Od.mono (M:=MiS S1 w'.heap) (M':={ M with S:=fun b=>M.S b\/(S1 b/\(w.heap.size<=b\/b ∈ F)),h:=w'.heap }) (hSS hl) (fun _ _=>rfl) r v F1 hod1 (fun _ _=>rfl)
   ·exact Od.noSh (M:=MiS S1 w'.heap) r v F1 hl hod1 (fun _ _=>rfl)
  rw [<-R.nx] at hk1;obtain ⟨d',s1,M1,hk2,A,hr⟩:=adD_ok r v F1 { M with S:=fun b=>M.S b\/(S1 b/\(w.heap.size<=b\/b ∈ F)),h:=w'.heap } (killN st.sto us) _ H1 hod1' hfree.left hk1
  have L2:M.Le M1 false:=⟨fun b hb=>A.le.S b (L1.S b hb),fun b hb=>(A.le.h b (L1.S b hb)).trans (L1.h b hb),fun _=>Nat.le_trans (L1.nx rfl) (A.le.nx rfl),
   fun _ n hn=>(A.le.ρ rfl n hn).trans (L1.ρ rfl n hn),fun _ n hn=>(A.le.hv rfl n hn).trans (L1.hv rfl n hn),fun _ n hn=>(A.le.X rfl n hn).trans (L1.X rfl n hn)⟩
  exact ⟨d',_,M1,v,rfl,hk2,R.go L2 A.mem A.h rfl hB.os hB.tape hB.output,hr⟩
end Sx
namespace Sx
open Go
def allI:List Lk->Bool
 | []=>true| .i k :: l=>decide (k = .i64) && allI l| _ :: _=>false
theorem okL_kis:∀ {ks:List Lk} {r:List Int},allI ks=true->ks.length=r.length->okL ks (kis r)
 | [],[],_,_=>trivial
 | .i k :: l,n :: r,h,hl=>by
   simp only [allI,bat,decide_eq_true_eq] at h;obtain ⟨rfl,h⟩:=h;exact ⟨⟨n,rfl⟩,okL_kis h (by simpa using hl)⟩
 | .b :: _,_ :: _,h,_=>by simp [allI] at h
 | .s :: _,_ :: _,h,_=>by simp [allI] at h
 | [],_ :: _,_,hl=>by simp at hl
 | _ :: _,[],_,hl=>by simp at hl
theorem eqVs_kis:∀ {r s:List Int},r.length=s.length->eqVs (kis r) (kis s)=decide (s=r)
 | [],[],_=>rfl
 | a :: r,b :: s,h=>by
   have:=eqVs_kis (r:=r) (s:=s) (by simpa using h);simp only [kis,List.map_cons,eqVs,eqV] at this ⊢;rw [this];by_cases e:a=b
   ·subst e;simp
   ·simp [e,Ne.symm e]
 | [],_ :: _,h=>by simp at h
 | _ :: _,[],h=>by simp at h
theorem keyV_top {Γ:Ty} {t:Nat} {sk:Bool} (h:(Γ.get t).k.isStr=sk) (r:List Int):topV Γ t (kis r)=keyV sk r:=by
 subst h;unfold topV keyV;generalize kis r=xs
 cases (Γ.get t).k.isStr<;>rcases xs with _ | ⟨a,_ | ⟨b,c⟩⟩<;>rfl
section
variable {P:Program} {Γ:Ty} {c:Cx P} {nt:Nt} {M:Mi} {st:St} {a:Act} {w:World}
mutual
theorem run_checkKey_flat (H:TyOK P Γ) (em:Bool) (d:Nat):∀ (n t:Nat) (ks:List Lk),flatG Γ n t=some ks->∀ (xs:List Value),okL ks xs->∀ w,(Instr.checkKey em (d+n) t (topV Γ t xs)).run P w = .ok () w
 | 0,t,ks,h,_,_,_=>by simp [flatG] at h
 | n+1,t,ks,h,xs,hx,w=>by
   unfold flatG at h;rw [show d+(n+1)=(d+n)+1 from rfl];split at h
   ·rename_i k hk;cases h;obtain ⟨i,dd,z,hi,hu,_,_,_,_,_,hkc⟩:=H.ok hk (by simp)
    cases dd<;>simp only [kchk,bft] at hkc
    match xs,hx with
    | [x],hx =>
      obtain ⟨⟨a,rfl⟩,_⟩:=hx;simp [topV,hk,TK.isStr,Instr.checkKey,run_underlying hu]
   ·rename_i hk;cases h;obtain ⟨i,dd,z,hi,hu,_,_,_,_,_,hkc⟩:=H.ok hk (by simp)
    cases dd<;>simp only [kchk,bft] at hkc
    match xs,hx with
    | [x],hx =>
      obtain ⟨⟨a,rfl⟩,_⟩:=hx;simp [topV,hk,TK.isStr,Instr.checkKey,run_underlying hu]
   ·rename_i hk;cases h;obtain ⟨i,dd,z,hi,hu,_,_,_,_,_,hkc⟩:=H.ok hk (by simp)
    cases dd<;>simp only [kchk,bft] at hkc
    match xs,hx with
    | [x],hx =>
      obtain ⟨⟨a,rfl⟩,_⟩:=hx;simp [topV,hk,TK.isStr,Instr.checkKey,run_underlying hu]
   ·rename_i fs hk;obtain ⟨hu,hp,_,hfd⟩:=FdOK.of H hk;simp only [topV,hk,TK.isStr];rw [Instr.checkKey];simp only [Sem.run_bind,run_underlying hu,Result.andThen_ok];rw [<-Array.forIn_toList];rw [run_checkFields H em d n fs (P.fieldsOf t).toList 0 ks hfd h xs (by simpa using hx) w _ fun f v h1 h2 h3=>by simp [h1,h2,h3]];simp
   ·cases h
theorem run_checkFields (H:TyOK P Γ) (em:Bool) (d:Nat) (n:Nat):∀ (fs:List (Nat × Nat × Nat)) (L:List Field) (k:Nat) (ks:List Lk),FdOK P Γ fs L->flatF (flatG Γ n) fs k=some ks->∀ (xs:List Value),okL ks (xs.drop k)->∀ w,
 ∀ g:Field->PUnit->Sem (ForInStep PUnit),(∀ f v,f.name≠ "_"->(part f.type xs.toArray f.offset).run P w = .ok v w->(Instr.checkKey em (d+n) f.type v).run P w = .ok () w->(g f PUnit.unit).run P w = .ok (.yield PUnit.unit) w) ->
 (forIn L PUnit.unit g).run P w = .ok PUnit.unit w
 | [],[],k,ks,_,h,xs,hx,w,g,hg=>by simp
 | [],_ :: _,_,_,hf,_,_,_,_,_,_=>by have:=hf.len;simp at this
 | _ :: _,[],_,_,hf,_,_,_,_,_,_=>by have:=hf.len;simp at this
 | (o,s,u) :: fs,f :: L,k,ks,hf,h,xs,hx,w,g,hg=>by
   obtain ⟨f',hf0,h1,h2,h3,h4⟩:=hf.at_ 0 o s u rfl;simp only [List.getElem?_cons_zero,Option.some.injEq] at hf0;subst hf0;simp only [flatF] at h;split at h
   case h_2=>cases h
   rename_i ho;have ho:=nbq ho;subst ho;split at h
   case h_2=>cases h
   rename_i l hl;split at h
   case h_2=>cases h
   rename_i hs;have hs:=nbq hs;split at h
   case h_2=>cases h
   rename_i m hm;cases h
   have hsz:l.length=(Γ.get u).size:=by rw [h4 (flat_ne hl)];exact hs
   obtain ⟨x1,x2⟩:=hx.split;have p1:=run_part_flat H hl hsz x1 w;have e:=run_checkKey_flat H em d n u l hl _ x1 w;rw [List.drop_drop,hs] at x2;have r:=run_checkFields H em d n fs L (o+s) m hf.tail hm xs x2 w g hg;have g0:=hg f _ h3 (by rw [h2,h1];exact p1) (by rw [h2];exact e);simp only [List.forIn_cons,Sem.run_bind,g0,Result.andThen_ok];exact r
end
theorem run_findAsking_flat (H:TyOK P Γ) {kt:Nat} {ks:List Lk} (hf:flatG Γ 6 kt=some ks) (ha:allI ks=true) {sk:Bool} (bv:Bool) (hs:(Γ.get kt).k.isStr=sk) (r:List Int) (hr:ks.length=r.length) (w:World) :
 ∀ (es:List MapEntry) (l:List (List Int × Int)) (i:Nat),es.map (fun e=>(e.key,e.val))=l.map (fun x=>(keyV sk x.1,valV bv x.2))->(∀ x ∈ l,x.1.length=ks.length) ->
   (Instr.findAsking kt (keyV sk r) es i).run P w = .ok ((fnd l r i).map fun p=>(p.1,valV bv p.2)) w
 | [],[],i,_,_=>by simp [Instr.findAsking,fnd]
 | e :: es,x :: l,i,he,hl=>by
   simp only [List.map_cons,List.cons.injEq,Prod.mk.injEq] at he;obtain ⟨⟨h1,h2⟩,he⟩:=he;have hx:=hl x (by simp);have hq:=run_equalIn_flat H 9994 6 kt ks hf (kis r) (kis x.1) (okL_kis ha hr) (okL_kis ha hx.symm) w;rw [keyV_top hs,keyV_top hs] at hq
   have hq' : (Op.equal kt (keyV sk r) e.key).run P w = .ok (decide (x.1=r)) w:=by
    rw [h1,<-eqVs_kis (by rw [hx,<-hr])];simpa [Op.equal,Op.maxDepth] using hq
   simp only [Instr.findAsking,Sem.run_bind,hq',Result.andThen_ok,fnd]
   cases hd:decide (x.1=r) with
   | true=>simp [h2]
   | false =>
     have ho:=run_findAsking_flat H hf ha bv hs r hr w es l (i+1) he fun y hy=>hl y (by simp [hy])
     simpa using ho
 | [],_ :: _,_,h,_=>by simp at h
 | _ :: _,[],_,h,_=>by simp at h
theorem findNow_int {k:IntKind} {n:Int} (bv:Bool):∀ (es:List MapEntry) (l:List (List Int × Int)) (i:Nat),es.map (fun e=>(e.key,e.val))=l.map (fun x=>(keyV false x.1,valV bv x.2))->(∀ x ∈ l,x.1.length=1) ->
 Instr.findNow (.int k) (.int .i64 n) es i=some ((fnd l [n] i).map fun p=>(p.1,valV bv p.2))
 | [],[],i,_,_=>rfl
 | e :: es,x :: l,i,he,hl=>by
   simp only [List.map_cons,List.cons.injEq,Prod.mk.injEq] at he;obtain ⟨⟨h1,h2⟩,he⟩:=he;have hx:=hl x (by simp);obtain ⟨y,v⟩:=x
   obtain ⟨a,rfl⟩:∃ a,y = [a]:=by
    match y,hx with
    | [a],_=>exact ⟨a,rfl⟩
   have h1:e.key = .int .i64 a:=h1
   have ih:=findNow_int (k:=k) (n:=n) bv es l (i+1) he fun y hy=>hl y (by simp [hy])
   simp only [Instr.findNow,h1,Instr.sameNow,fnd];by_cases hna:n=a
   ·subst hna;simp [h2]
   ·have h3:¬([a]:List Int) = [n]:=fun h=>hna (by simpa using h.symm)
    have h4:(n == a)=false:=by rwa [beq_eq_false_iff_ne]
    simp only [h3,decide_false,h4,if_true];exact ih
 | [],_ :: _,_,h,_=>by simp at h
 | _ :: _,[],_,h,_=>by simp at h
theorem run_findKey_flat (H:TyOK P Γ) {kt:Nat} {ks:List Lk} (hf:flatG Γ 6 kt=some ks) (ha:allI ks=true) {sk:Bool} (bv:Bool) (hs:(Γ.get kt).k.isStr=sk) (r:List Int) (hr:ks.length=r.length) (w:World)
 (es:List MapEntry) (l:List (List Int × Int)) (he:es.map (fun e=>(e.key,e.val))=l.map (fun x=>(keyV sk x.1,valV bv x.2))) (hl:∀ x ∈ l,x.1.length=ks.length) :
   (Instr.findKey kt (keyV sk r) es).run P w = .ok ((fnd l r 0).map fun p=>(p.1,valV bv p.2)) w:=by
 cases sk with
 | true =>
   obtain ⟨dd,hu⟩:∃ dd,P.underlying kt=some dd:=by
    obtain ⟨_,dd,_,_,hu,_⟩:=H.ok (t:=kt) rfl (flat_ne hf);exact ⟨dd,hu⟩
   have ho:=run_findAsking_flat H hf ha bv hs r hr w es l 0 he hl
   cases es with
   | nil =>
     cases l with
     | nil=>simp [Instr.findKey,run_underlying hu,Instr.findNow,fnd]| cons=>simp at he
   | cons e es =>
     have hn:Instr.findNow dd (keyV true r) (e :: es) 0=none:=by
      simp only [Instr.findNow]
      cases dd<;>rfl
     simp [Instr.findKey,run_underlying hu,hn,ho]
 | false =>
   obtain ⟨k,rfl,hne,_⟩:=flat_one hf hs
   obtain ⟨kk,dd,hu,hdd⟩:∃ kk dd,P.underlying kt=some dd/\dd = .int kk:=by
    unfold flatG at hf;split at hf
    ·rename_i k0 hk;obtain ⟨_,dd,_,_,hu,_,_,_,_,_,hkc⟩:=H.ok hk (by simp)
     cases dd<;>simp only [kchk,bft] at hkc
     exact ⟨_,_,hu,rfl⟩
    ·cases hf;simp [allI] at ha
    ·cases hf;simp [allI] at ha
    ·rename_i fs hk;rw [hk] at hs;simp [TK.isStr] at hs
    ·cases hf
   subst hdd
   match r,hr with
   | [n],_ =>
     have:=findNow_int (k:=kk) (n:=n) bv es l 0 he hl;simp [Instr.findKey,run_underlying hu,keyV,kis,this]
def keysD:List D->(List Int->Prop)->Prop
 | [],K=>K []
 | d :: l,K=>D.force d fun d=>match d with
   | .int k n=>match decide (k = .i64) with
     | true=>keysD l fun r=>K (n :: r)
     | false=>False
   | _=>False
theorem keysD_of:∀ {l:List D} {K:List Int->Prop},keysD l K->∃ r,K r/\∀ {M:Mi} {im:Bool} {vs:List Value},RdL M im l vs->vs=kis r
 | [],K,h=>⟨[],h,fun {M im vs} hv=>by
   cases vs with
   | nil=>rfl
   | cons=>simp [RdL] at hv⟩
 | d :: l,K,h=>by
   simp only [keysD,force_eq] at h;split at h
   case h_2=>exact h.elim
   rename_i k n;split at h
   case h_2=>exact h.elim
   rename_i hk;simp only [decide_eq_true_eq] at hk;subst hk;obtain ⟨r,hr,hv⟩:=keysD_of h;refine ⟨n :: r,hr,fun {M im vs} h=>?_⟩
   cases vs with
   | nil=>simp [RdL] at h
   | cons v vs =>
     simp only [RdL,Rd] at h;rw [h.2.1,hv h.2.2];rfl
def TK.isB:TK->Bool
 | .bool=>true| _=>false
def mapTyD (Γ:Ty) (t:Nat) (K:Nat->Nat->List Lk->Bool->Bool->Prop):Prop :=
 match (Γ.get t).k with
 | .map kt et=>match flatG Γ 6 kt with
   | some ks=>match allI ks with
     | true=>match (Γ.get et).k,(Γ.get et).zero with
       | .bool,.lit false=>K kt et ks (Γ.get kt).k.isStr true| .int .i64,.int .i64 0=>K kt et ks (Γ.get kt).k.isStr false| _,_=>False
     | false=>False
   | none=>False
 | _=>False
def keyD (sk:Bool) (k:D) (K:List Int->Prop):Prop:=match sk with
 | true=>match k with
   | .agg l=>keysD l K| _=>False
 | false=>keysD [k] K
theorem keyD_of {sk:Bool} {k:D} {K:List Int->Prop} (h:keyD sk k K):∃ r,K r/\∀ {M:Mi} {im:Bool} {v:Value},Rd M im k v->v=keyV sk r:=by
 cases sk with
 | true =>
   simp only [keyD] at h;split at h
   case h_2=>exact h.elim
   obtain ⟨r,h1,h2⟩:=keysD_of h;refine ⟨r,h1,fun {M im v} hv=>?_⟩;simp only [Rd] at hv;obtain ⟨cs,rfl,hcs⟩:=hv;have:=h2 hcs
   show Value.agg cs = .agg (kis r).toArray
   congr 1
   apply Array.ext';simpa using this
 | false =>
   simp only [keyD,keysD,force_eq] at h;split at h
   case h_2=>exact h.elim
   rename_i k n;split at h
   case h_2=>exact h.elim
   rename_i hk;simp only [decide_eq_true_eq] at hk;subst hk;exact ⟨[n],h,fun {M im v} hv=>by simp only [Rd] at hv;rw [hv];rfl⟩
def b2i (b:Bool):Int:=match b with | true=>1 | false=>0
theorem valV_b2i (b:Bool):valV true (b2i b) = .bool b:=by cases b<;>rfl
def valD (bv:Bool) (d:D) (K:Int->Prop):Prop:=match bv with
 | true=>match d with
   | .bool b=>K (b2i b)| .lit b=>K (b2i b)| _=>False
 | false=>match d with
   | .int k n=>match decide (k = .i64) with
     | true=>K n| false=>False
   | _=>False
theorem valD_of {bv:Bool} {d:D} {K:Int->Prop} (h:valD bv d K):∃ x,K x/\∀ {M:Mi} {im:Bool} {v:Value},Rd M im d v->v=valV bv x:=by
 cases bv with
 | true =>
   simp only [valD] at h;split at h
   ·rename_i b;exact ⟨_,h,fun {M im v} hv=>by simp only [Rd] at hv;rw [hv,valV_b2i]⟩
   ·rename_i b;exact ⟨_,h,fun {M im v} hv=>by simp only [Rd] at hv;rw [hv,valV_b2i]⟩
   ·exact h.elim
 | false =>
   simp only [valD] at h;split at h
   case h_2=>exact h.elim
   rename_i k n;split at h
   case h_2=>exact h.elim
   rename_i hk;simp only [decide_eq_true_eq] at hk;subst hk;exact ⟨n,h,fun {M im v} hv=>by simp only [Rd] at hv;rw [hv];rfl⟩
def outD (bv:Bool) (x:Int):D:=match bv with
 | true=>.bool (decide (x≠0))| false=>.int .i64 x
theorem outD_rd (M:Mi) (im:Bool) (bv:Bool) (x:Int):Rd M im (outD bv x) (valV bv x):=by cases bv<;>simp [outD,valV,Rd]
def lookR (ok bv:Bool) (o:Option Int):D:=match ok with
 | true=>.tup [outD bv (o.getD 0),.bool o.isSome]| false=>outD bv (o.getD 0)
def wfM (e:MpL) (sk bv:Bool) (n:Nat):Prop:=(e.sk=sk/\e.bv=bv)/\∀ x ∈ e.l,x.1.length=n
def lookD (Γ:Ty) (st:St) (t:Nat) (m k:D) (ok:Bool) (K:D->St->Prop):Prop :=
 mapTyD Γ t fun _ _ ks sk bv=>keyD sk k fun r=>match Nat.beq ks.length r.length with
  | true=>match m with
    | .mapb e=>Vc (wfM e sk bv ks.length) (K (lookR ok bv (mget e.l r)) st)
    | .mref j=>match st.sto j with
      | .mp e=>Vc (wfM e sk bv ks.length) (K (lookR ok bv (mget e.l r)) st)| .mpe e r' _=>Vc (wfM ⟨e.sk,e.bv,mput e.l r' ((mget e.l r').getD 0)⟩ sk bv ks.length) (K (lookR ok bv (mget (mput e.l r' ((mget e.l r').getD 0)) r)) st)| _=>False
    | _=>False
  | false=>False
def mputD (Γ:Ty) (st:St) (t:Nat) (m k v:D) (K:D->St->Prop):Prop :=
 mapTyD Γ t fun _ _ ks sk bv=>keyD sk k fun r=>match Nat.beq ks.length r.length with
  | true=>match m with
    | .mref j=>match st.sto j with
      | .mp e=>valD bv v fun x=>Vc (wfM e sk bv ks.length) (st.on fun e_ s_ k_=>K .any ⟨e_,upd s_ j (.mp ⟨sk,bv,mput e.l r x⟩),k_⟩)
      | _=>False
    | _=>False
  | false=>False
theorem mapTyD_of (H:TyOK P Γ) {t:Nat} {K:Nat->Nat->List Lk->Bool->Bool->Prop} (h:mapTyD Γ t K):∃ kt et ks bv,K kt et ks (Γ.get kt).k.isStr bv/\P.underlying t=some (.map kt et)/\flatG Γ 6 kt=some ks/\allI ks=true/\∀ w,(zeroValue et).run P w = .ok (valV bv 0) w:=by
 unfold mapTyD at h;split at h
 case h_2=>exact h.elim
 rename_i kt et hk;split at h
 case h_2=>exact h.elim
 rename_i ks h3;split at h
 case h_2=>exact h.elim
 rename_i h5;obtain ⟨_,dd,_,_,hu,_,_,_,_,_,hkc⟩:=H.ok hk (by simp)
 cases dd<;>simp only [kchk,bft] at hkc
 simp only [bat,beq_iff_eq] at hkc;obtain ⟨rfl,rfl⟩:=hkc;split at h
 ·rename_i h1 h2;obtain ⟨i,_,z,hi,_,_,_,hz,_,hzk,_⟩:=H.ok h1 (by simp);refine ⟨kt,et,ks,true,h,hu,h3,h5,fun w=>?_⟩;rw [h2] at hzk
  cases z<;>simp only [zchk,bft] at hzk
  have hzk:=eq_of_beq hzk;subst hzk;simp [zeroValue,typeInfo,hi,hz,valV]
 ·rename_i h1 h2;obtain ⟨i,_,z,hi,_,_,_,hz,_,hzk,_⟩:=H.ok h1 (by simp);refine ⟨kt,et,ks,false,h,hu,h3,h5,fun w=>?_⟩;rw [h2] at hzk
  cases z<;>simp only [zchk,bft] at hzk
  simp only [bat,beq_iff_eq] at hzk;obtain ⟨rfl,rfl⟩:=hzk;simp [zeroValue,typeInfo,hi,hz,valV]
 ·exact h.elim
theorem run_lookup_flat (H:TyOK P Γ) {t kt et:Nat} {ks:List Lk} (hu:P.underlying t=some (.map kt et)) (hf:flatG Γ 6 kt=some ks) (ha:allI ks=true) {sk bv:Bool} (hs:(Γ.get kt).k.isStr=sk) (hz:∀ w,(zeroValue et).run P w = .ok (valV bv 0) w)
 {r:List Int} (hr:ks.length=r.length) {w:World} {b:Nat} {e:MpL} (hm:mapOK w.heap[b]? e) (hw:wfM e sk bv ks.length) (ok:Bool) :
 (Instr.lookup t (.map (some b)) (keyV sk r) ok).run P w = .ok (match ok with | true=>.tuple #[valV bv ((mget e.l r).getD 0),.bool (mget e.l r).isSome] | false=>valV bv ((mget e.l r).getD 0)) w:=by
 obtain ⟨es,ck,hb,he,_⟩:=hm;obtain ⟨⟨rfl,rfl⟩,hl⟩:=hw;have ho:=run_findKey_flat H hf ha e.bv hs r hr w es.toList e.l he hl;have hc:=run_checkKey_flat H es.isEmpty 9994 6 kt ks hf (kis r) (okL_kis ha hr) w;rw [keyV_top hs] at hc;have hc:(Instr.checkKey es.isEmpty 10000 kt (keyV e.sk r)).run P w = .ok () w:=hc
 have hg:(getObj b).run P w = .ok (.map es ck) w:=by simp [getObj,Sem.run,hb]
 unfold mget
 cases hmg:fnd e.l r 0 with
 | none =>
   rw [hmg] at ho
   cases ok<;>simp [Instr.lookup,run_underlying hu,hg,hc,ho,hz]
 | some x =>
   rw [hmg] at ho
   cases ok<;>simp [Instr.lookup,run_underlying hu,hg,hc,ho]
theorem lookR_rd (M:Mi) (ok bv:Bool) (o:Option Int):Rd M false (lookR ok bv o) (match ok with | true=>.tuple #[valV bv (o.getD 0),.bool o.isSome] | false=>valV bv (o.getD 0)):=by
 cases ok
 ·exact outD_rd _ _ _ _
 ·simp only [lookR,Rd,RdT];exact ⟨_,rfl,outD_rd _ _ _ _,rfl,trivial⟩
theorem lookD_ok (H:TyOK P Γ) (R:RelM c nt M st a w) {t:Nat} {m k:D} {ok:Bool} {x y:Value} {K:D->St->Prop} (h:lookD Γ st t m k ok K) (hm:Rd M false m x) (hk:Rd M false k y) :
 ∃ d v,K d st/\Rd M false d v/\(Instr.lookup t x y ok).run P w = .ok v w:=by
 obtain ⟨kt,et,ks,bv,h1,hu,hf,ha,hz⟩:=mapTyD_of H h;clear h;obtain ⟨r,h,hv⟩:=keyD_of h1;clear h1;have hy:=hv hk;subst hy;split at h
 case h_2=>exact h.elim
 rename_i hr;have hr:=nbq hr;split at h
 ·rename_i e;simp only [Rd] at hm;obtain ⟨b,rfl,hS,hm⟩:=hm;rw [R.h] at hm;exact ⟨_,_,h.k,lookR_rd _ _ _ _,run_lookup_flat H hu hf ha rfl hz hr hm h.vc ok⟩
 ·rename_i j;split at h
  case h_3=>exact h.elim
  ·rename_i e hj;simp only [Rd] at hm;obtain ⟨_,hn,b,hρ,rfl⟩:=hm;have hb:=R.mem.box j hn;rw [hj] at hb;obtain ⟨b',h1,hm⟩:=hb;rw [hρ] at h1;cases h1;rw [R.h] at hm;exact ⟨_,_,h.k,lookR_rd _ _ _ _,run_lookup_flat H hu hf ha rfl hz hr hm h.vc ok⟩
  ·rename_i e r' s hj;simp only [Rd] at hm;obtain ⟨_,hn,b,hρ,rfl⟩:=hm;have hb:=R.mem.box j hn;rw [hj] at hb;obtain ⟨b',h1,es,ck,g1,g2,g3,g4,_⟩:=hb;rw [hρ] at h1;cases h1;rw [R.h] at g1;exact ⟨_,_,h.k,lookR_rd _ _ _ _,run_lookup_flat H hu hf ha rfl hz hr (e:=⟨e.sk,e.bv,mput e.l r' ((mget e.l r').getD 0)⟩) ⟨es,ck,g1,g2,g3,g4⟩ h.vc ok⟩
 ·exact h.elim
def lookE (Γ:Ty) (st:St) (t:Nat) (m k:D) (ok:Bool) (K:D->St->Prop) (no:Prop):Prop :=
 match (Γ.get t).k with
 | .map kt et=>match (Γ.get et).k,(Γ.get et).zero with
   | .str,.str []=>match flatG Γ 6 kt with
     | some ks=>match allI ks with
       | true=>keyD (Γ.get kt).k.isStr k fun r=>match Nat.beq ks.length r.length with
         | true=>match m with
           | .mref j=>match st.sto j with
             | .mp ⟨_,_,[]⟩=>K (match ok with | true=>.tup [.str [],.lit false] | false=>.str []) st| _=>False
           | _=>False
         | false=>False
       | false=>False
     | none=>False
   | _,_=>no
 | _=>no
theorem lookE_ok (H:TyOK P Γ) (R:RelM c nt M st a w) {t:Nat} {m k:D} {ok:Bool} {x y:Value} {K:D->St->Prop} {no:Prop} (h:lookE Γ st t m k ok K no) (hm:Rd M false m x) (hk:Rd M false k y) :
 no\/∃ d v,K d st/\Rd M false d v/\(Instr.lookup t x y ok).run P w = .ok v w:=by
 unfold lookE at h;split at h
 case h_2=>exact .inl h
 rename_i kt et hkt;split at h
 case h_2=>exact .inl h
 rename_i h1 h2
 right
 split at h
 case h_2=>exact h.elim
 rename_i ks hf;split at h
 case h_2=>exact h.elim
 rename_i ha;obtain ⟨_,dd,_,_,hu,_,_,_,_,_,hkc⟩:=H.ok hkt (by simp)
 cases dd<;>simp only [kchk,bft] at hkc
 simp only [bat,beq_iff_eq] at hkc;obtain ⟨rfl,rfl⟩:=hkc
 have hz:∀ w,(zeroValue et).run P w = .ok (.string ⟨#[]⟩) w:=fun w=>by
  obtain ⟨i,_,z,hi,_,_,_,hz,_,hzk,_⟩:=H.ok h1 (by simp);rw [h2] at hzk
  have hzz:z = .string ⟨#[]⟩:=by
   cases z with
   | string s =>
     obtain ⟨d⟩:=s;simp only [zchk,beq_iff_eq] at hzk;rw [Array.eq_empty_of_size_eq_zero hzk]
   | _=>simp [zchk] at hzk
  subst hzz;simp [zeroValue,typeInfo,hi,hz]
 obtain ⟨r,h',hv⟩:=keyD_of h;clear h;have h:=h';clear h';have hy:=hv hk;subst hy;split at h
 case h_2=>exact h.elim
 rename_i hr;have hr:=nbq hr;split at h
 case h_2=>exact h.elim
 rename_i j;split at h
 case h_2=>exact h.elim
 rename_i sk bv hj;simp only [Rd] at hm;obtain ⟨_,hn,b,hρ,rfl⟩:=hm;have hb:=R.mem.box j hn;rw [hj] at hb;obtain ⟨b',g1,es,ck,hb,he,_⟩:=hb;rw [hρ] at g1;cases g1;rw [R.h] at hb;have ho:=run_findKey_flat H hf ha bv rfl r hr w es.toList [] (by simpa using he) nofun;have hc:=run_checkKey_flat H es.isEmpty 9994 6 kt ks hf (kis r) (okL_kis ha hr) w;rw [keyV_top rfl] at hc;have hc:(Instr.checkKey es.isEmpty 10000 kt (keyV (Γ.get kt).k.isStr r)).run P w = .ok () w:=hc
 have hg:(getObj b).run P w = .ok (.map es ck) w:=by simp [getObj,Sem.run,hb]
 simp only [fnd] at ho;refine ⟨_,match ok with | true=>.tuple #[.string ⟨#[]⟩,.bool false] | false=>.string ⟨#[]⟩,h,?_,?_⟩
 ·cases ok<;>simp [Rd,RdT]
 ·cases ok<;>simp [Instr.lookup,run_underlying hu,hg,hc,ho,hz]
theorem fnd_at:∀ (l:List (List Int × Int)) (r:List Int) (i:Nat) (p:Nat × Int),fnd l r i=some p->i<=p.1/\l[p.1 - i]? = some (r,p.2)
 | [],_,_,_,h=>by simp [fnd] at h
 | x :: l,r,i,p,h=>by
   simp only [fnd] at h;split at h
   ·rename_i hd;simp only [decide_eq_true_eq] at hd;simp only [Option.some.injEq] at h;subst h;obtain ⟨y,v⟩:=x;dsimp only at hd;subst hd;simp
   ·obtain ⟨h1,h2⟩:=fnd_at l r (i+1) p h;refine ⟨by omega,?_⟩;rw [show p.1 - i=(p.1 - (i+1))+1 by omega];simpa using h2
theorem sameBits_key (sk:Bool) (r:List Int) (h:sk=true\/∃ n,r = [n]):Instr.sameBits 10000 (keyV sk r) (keyV sk r)=true:=by
 rcases h with rfl | ⟨n,rfl⟩
 ·show Instr.sameBits 10000 (.agg (kis r).toArray) (.agg (kis r).toArray)=true
  simp only [Instr.sameBits,beq_self_eq_true,Bool.true_and,List.all_eq_true]
  rintro ⟨x,y⟩ hxy
  have:∀ (l:List Int),(x,y) ∈ (kis l).zip (kis l)->∃ n,x = .int .i64 n/\y = .int .i64 n:=by
   intro l
   induction l with
   | nil=>intro h;simp [kis] at h
   | cons a l ih =>
     intro h;simp only [kis,List.map_cons,List.zip_cons_cons,List.mem_cons,Prod.mk.injEq] at h
     rcases h with ⟨rfl,rfl⟩ | h
     ·exact ⟨a,rfl,rfl⟩
     ·exact ih h
  obtain ⟨n,rfl,rfl⟩:=this r hxy;simp [Instr.sameBits]
 ·cases sk
  ·simp [keyV,kis,Instr.sameBits]
  ·show Instr.sameBits 10000 (.agg (kis [n]).toArray) (.agg (kis [n]).toArray)=true
   simp [kis,Instr.sameBits]
theorem run_mapUpdate_flat (H:TyOK P Γ) {t kt et:Nat} {ks:List Lk} (hu:P.underlying t=some (.map kt et)) (hf:flatG Γ 6 kt=some ks) (ha:allI ks=true) {sk:Bool} (hs:(Γ.get kt).k.isStr=sk)
 {r:List Int} (hr:ks.length=r.length) {w:World} {b:Nat} {e:MpL} {es:Array MapEntry} {ck:Nat} (hb:w.heap[b]? = some (.map es ck)) (he:es.toList.map (fun e=>(e.key,e.val))=e.l.map (fun x=>(keyV e.sk x.1,valV e.bv x.2))) {bv:Bool}
 (hw:wfM e sk bv ks.length) (hst:(es.toList.map (·.born)).Nodup/\∀ x ∈ es.toList,x.born<ck) (x:Int) :
 ∃ es' ck',(Instr.mapUpdate t (.map (some b)) (keyV sk r) (valV bv x)).run P w = .ok () { w with heap:=w.heap.setIfInBounds b (.map es' ck') }/\es'.toList.map (fun e=>(e.key,e.val))=(mput e.l r x).map (fun x=>(keyV sk x.1,valV bv x.2))/\(es'.toList.map (·.born)).Nodup/\∀ x ∈ es'.toList,x.born<ck':=by
 obtain ⟨⟨rfl,rfl⟩,hl⟩:=hw;have ho:=run_findKey_flat H hf ha e.bv hs r hr w es.toList e.l he hl;have hc:=run_checkKey_flat H false 9994 6 kt ks hf (kis r) (okL_kis ha hr) w;rw [keyV_top hs] at hc;have hc:(Instr.checkKey false 10000 kt (keyV e.sk r)).run P w = .ok () w:=hc
 have hg:(getObj b).run P w = .ok (.map es ck) w:=by simp [getObj,Sem.run,hb]
 have hk:e.sk=true\/∃ n,r = [n]:=by
  cases h:e.sk with
  | true=>exact .inl rfl
  | false =>
    rw [h] at hs;obtain ⟨k,rfl,_,_⟩:=flat_one hf hs
    match r,hr with
    | [n],_=>exact .inr ⟨n,rfl⟩
 unfold mput
 cases hmg:fnd e.l r 0 with
 | none =>
   rw [hmg] at ho;refine ⟨es.push { key:=keyV e.sk r,val:=valV e.bv x,born:=ck },ck+1,?_,?_,?_,?_⟩
   ·simp only [Instr.mapUpdate,Sem.run_bind,run_underlying hu,hg,hc,ho,Result.andThen_ok,Option.map_none];simp [setObj,Sem.run,hb]
   ·simp only [Array.toList_push,List.map_append,List.map_cons,List.map_nil,he]
   ·simp only [Array.toList_push,List.map_append,List.map_cons,List.map_nil];rw [List.nodup_append];refine ⟨hst.1,by simp,fun a ha b hb=>?_⟩;obtain ⟨y,hy,rfl⟩:=List.mem_map.1 ha;have:=hst.2 y hy;simp only [List.mem_singleton] at hb;omega
   ·intro y hy;simp only [Array.toList_push,List.mem_append,List.mem_singleton] at hy
    rcases hy with hy | rfl
    ·have:=hst.2 y hy;omega
    ·exact Nat.lt_succ_self _
 | some p =>
   rw [hmg] at ho;obtain ⟨_,hp⟩:=fnd_at _ _ _ _ hmg;rw [Nat.sub_zero] at hp
   have hkey:((es[p.1]?).map (·.key)).getD (keyV e.sk r)=keyV e.sk r:=by
    have h1:(es.toList.map (fun e=>(e.key,e.val)))[p.1]? = some (keyV e.sk r,valV e.bv p.2):=by rw [he];simp [hp]
    rw [List.getElem?_map,Array.getElem?_toList] at h1
    cases h2:es[p.1]? with
    | none=>rfl
    | some o =>
      rw [h2] at h1;simp only [Option.map_some,Option.some.injEq,Prod.mk.injEq] at h1;simpa using h1.1
   have hbm:(es.modify p.1 fun e'=>{ e' with key:=keyV e.sk r,val:=valV e.bv x }).toList.map (·.born)=es.toList.map (·.born):=by
    apply List.ext_getElem?;intro j;simp only [List.getElem?_map,Array.getElem?_toList,Array.getElem?_modify];by_cases hj:p.1=j
    ·subst hj;simp only [if_true]
     cases es[p.1]?<;>rfl
    ·simp only [hj,if_false]
   refine ⟨es.modify p.1 fun e'=>{ e' with key:=keyV e.sk r,val:=valV e.bv x },ck,?_,?_,by rw [hbm];exact hst.1,fun y hy=>?_⟩
   ·simp only [Instr.mapUpdate,Sem.run_bind,run_underlying hu,hg,hc,ho,Result.andThen_ok,Option.map_some,hkey,Instr.keyThatStays,sameBits_key _ _ hk];simp [setObj,Sem.run,hb]
   ·apply List.ext_getElem?;intro j;have h1:=congrArg (·[j]?) he;simp only [List.getElem?_map,Array.getElem?_toList] at h1;simp only [List.getElem?_map,Array.getElem?_toList,Array.getElem?_modify,List.getElem?_modify];by_cases hj:p.1=j
    ·subst hj;simp only [if_true,hp];rw [hp] at h1
     cases h2:es[p.1]? with
     | none=>rw [h2] at h1;simp at h1
     | some o=>simp
    ·simp only [hj,if_false];refine h1.trans ?_
     cases e.l[j]?<;>rfl
   ·have hy2:y.born ∈ es.toList.map (·.born):=by rw [<-hbm];exact List.mem_map_of_mem hy
    obtain ⟨z,hz,he2⟩:=List.mem_map.1 hy2;rw [<-he2];exact hst.2 z hz
theorem mputB (H:TyOK P Γ) (R:RelM c nt M st a w) {t kt et:Nat} {ks:List Lk} (hu:P.underlying t=some (.map kt et)) (hf:flatG Γ 6 kt=some ks) (ha:allI ks=true) {sk bv:Bool} (hs:(Γ.get kt).k.isStr=sk)
 {r:List Int} (hr:ks.length=r.length) {j:Nat} {e:MpL} (hj:st.sto j = .mp e) {x:Value} (hm:Rd M false (.mref j) x) (hw:wfM e sk bv ks.length) (v:Int) :
 ∃ M' w',RelM c nt M' ⟨st.env,upd st.sto j (.mp ⟨sk,bv,mput e.l r v⟩),st.nxt⟩ a w'/\(Instr.mapUpdate t x (keyV sk r) (valV bv v)).run P w = .ok () w':=by
 simp only [Rd] at hm;obtain ⟨_,hnx,blk,hρ,rfl⟩:=hm;have hb:=R.mem.box j hnx;rw [hj] at hb;obtain ⟨b',h1,es,ck,hm,he,hst⟩:=hb;rw [hρ] at h1;cases h1
 have hm' : w.heap[blk]? = some (.map es ck):=by rw [<-R.h];exact hm
 have hlt:=get?_lt hm
 have hd:st.sto j≠.dead:=by rw [hj];simp
 obtain ⟨es',ck',hrun,he'⟩:=run_mapUpdate_flat H hu hf ha hs hr hm' he hw hst v
 have key:=R.mem.set hd hρ (M.h.setIfInBounds blk (.map es' ck')) (by simp) (fun k hk=>by
  rw [Array.getElem?_setIfInBounds_ne (Ne.symm hk)]) (.mp ⟨sk,bv,mput e.l r v⟩) ⟨blk,hρ,es',ck',by simp [hlt],he'⟩
 obtain ⟨m,le⟩:=key (by rw [hj];rfl);exact ⟨_,{ w with heap:=w.heap.setIfInBounds blk (.map es' ck') },R.go le m (by simp only [R.h]) R.nx rfl rfl rfl,hrun⟩
theorem mputD_ok (H:TyOK P Γ) (R:RelM c nt M st a w) {t:Nat} {m k d:D} {x y z:Value} {K:D->St->Prop} (h:mputD Γ st t m k d K) (hm:Rd M false m x) (hk:Rd M false k y) (hd:Rd M false d z) :
 ∃ st' M' w',K .any st'/\RelM c nt M' st' a w'/\(Instr.mapUpdate t x y z).run P w = .ok () w':=by
 obtain ⟨kt,et,ks,bv,h1,hu,hf,ha,hz⟩:=mapTyD_of H h;clear h;obtain ⟨r,h,hv⟩:=keyD_of h1;clear h1;have hy:=hv hk;subst hy;split at h
 case h_2=>exact h.elim
 rename_i hr;have hr:=nbq hr;split at h
 case h_2=>exact h.elim
 rename_i j;split at h
 case h_2=>exact h.elim
 rename_i e hj;obtain ⟨v,h,hv⟩:=valD_of h;have hz:=hv hd;subst hz;obtain ⟨M',w',R',hrun⟩:=mputB H R hu hf ha rfl hr hj hm h.vc v;exact ⟨_,M',w',h.k,R',hrun⟩
theorem RelM.mp (R:RelM c nt M st a w) (sk bv:Bool):∃ M',RelM c nt M' ⟨st.env,upd st.sto st.nxt (.mp ⟨sk,bv,[]⟩),st.nxt+1⟩ a (w.alloc (.map #[] 0))/\Rd M' false (.mref st.nxt) (.map (some w.heap.size)):=by
 have hsz:M.h.size=w.heap.size:=by rw [R.h]
 obtain ⟨hm,hle⟩:=R.mem.new (.map #[] 0) (.pointer none) (.mp ⟨sk,bv,[]⟩) ⟨M.h.size,by simp [Mi.give,upd_self],#[],0,by simp [Mi.give],rfl,by simp,by simp⟩;refine ⟨_,R.go hle (by rw [<-R.nx];exact hm) (by simp only [Mi.give,R.h];rfl) (by simp [Mi.give,R.nx]) rfl rfl rfl,?_⟩;simp only [Rd,Mi.give,<-R.nx];exact ⟨trivial,Nat.lt_succ_self _,w.heap.size,by rw [upd_self,hsz],rfl⟩
def keyR (sk:Bool) (r:List Int):D:=match sk with
 | true=>.agg (r.map (.int .i64))
 | false=>match r with
   | [n]=>.int .i64 n| _=>.any
end
end Sx
namespace Sx
open Go
theorem Mi.leX (M:Mi) (Y:Nat->Nat->Prop):M.Le { M with X:=Y } true:=⟨fun _ h=>h,fun _ _=>rfl,by simp,by simp,by simp,by simp⟩
mutual
theorem Rd.setX {M:Mi} (Y:Nat->Nat->Prop):∀ (d:D) (v:Value) (im:Bool),Rd M im d v->Rd { M with X:=Y } im d v
 | .any,_,_,h=>by simp [Rd]
 | .int ..,_,_,h | .lit ..,_,_,h | .bool ..,_,_,h | .str ..,_,_,h | .nil,_,_,h | .null,_,_,h | .nilfn,_,_,h | .val _,_,_,h | .own _,_,_,h | .loc ..,_,_,h | .pel ..,_,_,h | .rsl ..,_,_,h | .mref _,_,_,h=>by simpa only [Rd] using h
 | .ftab ..,_,_,h | .foar ..,_,_,h | .ffam ..,_,_,h | .fbox ..,_,_,h | .fmap _,_,_,h | .fmapd ..,_,_,h=>by simp [Rd] at h
 | .tab sz k f,v,im,h=>by
   have h' : Rd M true (.tab sz k f) v:=by simpa only [Rd] using h
   exact Rd.im _ _ _ (Rd.mono (M.leX Y) _ _ h')
 | .ref l,v,im,h=>by
   have h' : Rd M true (.ref l) v:=by simpa only [Rd] using h
   exact Rd.im _ _ _ (Rd.mono (M.leX Y) _ _ h')
 | .mapb l,v,im,h=>by
   have h' : Rd M true (.mapb l) v:=by simpa only [Rd] using h
   exact Rd.im _ _ _ (Rd.mono (M.leX Y) _ _ h')
 | .agg l,v,im,h=>by
   simp only [Rd] at h ⊢;obtain ⟨cs,rfl,h⟩:=h;exact ⟨cs,rfl,RdL.setX Y l _ im h⟩
 | .vec n g,v,im,h=>by
   simp only [Rd] at h ⊢;obtain ⟨cs,rfl,hs,h⟩:=h;exact ⟨cs,rfl,hs,fun i x hx=>⟨(h i x hx).1,Rd.setX Y (g i) x im (h i x hx).2⟩⟩
 | .tup l,v,im,h=>by
   simp only [Rd] at h ⊢;obtain ⟨cs,rfl,h⟩:=h;exact ⟨cs,rfl,RdT.setX Y l _ im h⟩
 | .fn f l,v,im,h=>by
   simp only [Rd] at h ⊢;obtain ⟨cs,rfl,h⟩:=h;exact ⟨cs,rfl,RdL.setX Y l _ im h⟩
theorem RdL.setX {M:Mi} (Y:Nat->Nat->Prop):∀ (l:List D) (vs:List Value) (im:Bool),RdL M im l vs->RdL { M with X:=Y } im l vs
 | [],[],_,h=>by simp [RdL]
 | d :: l,v :: vs,im,h=>by
   simp only [RdL] at h ⊢;exact ⟨h.1,Rd.setX Y d v im h.2.1,RdL.setX Y l vs im h.2.2⟩
 | [],_ :: _,_,h=>by simp [RdL] at h
 | _ :: _,[],_,h=>by simp [RdL] at h
theorem RdT.setX {M:Mi} (Y:Nat->Nat->Prop):∀ (l:List D) (vs:List Value) (im:Bool),RdT M im l vs->RdT { M with X:=Y } im l vs
 | [],[],_,h=>by simp [RdT]
 | d :: l,v :: vs,im,h=>by
   simp only [RdT] at h ⊢;exact ⟨Rd.setX Y d v im h.1,RdT.setX Y l vs im h.2⟩
 | [],_ :: _,_,h=>by simp [RdT] at h
 | _ :: _,[],_,h=>by simp [RdT] at h
end
theorem OdL.setX {M:Mi} (Y:Nat->Nat->Prop) {l:List D} {vs:List Value} {F:List Nat} (h:OdL M l vs F):OdL { M with X:=Y } l vs F:=OdL.mono (M:=M) (M':={ M with X:=Y }) (fun _ h=>h) (fun _ _=>rfl) l vs F h fun _ _=>rfl
theorem BoxOK.setX {M:Mi} {m:Nat} {bx:Box} (Y:Nat->Nat->Prop) (H:BoxOK M m bx) (hX:Y m=M.X m):BoxOK { M with X:=Y } m bx:=by
 have hle:M.Le { M with X:=Y } true:=⟨fun _ h=>h,fun _ _=>rfl,by simp,by simp,by simp,by simp⟩
 cases bx with
 | dead=>trivial
 | var l=>obtain ⟨b,cs,ty,h1,h2,h3⟩:=H;exact ⟨b,cs,ty,h1,h2,h3.setX Y _ _ _⟩
 | vec k g=>obtain ⟨b,cs,ty,h1,h2,h3,h4⟩:=H;exact ⟨b,cs,ty,h1,h2,h3,fun i x hx=>⟨(h4 i x hx).1,(h4 i x hx).2.setX Y _ _ _⟩⟩
 | arr e sz k f=>obtain ⟨xs,h1,h2,h3,h4⟩:=H;exact ⟨xs,h1,h2,fun i hi=>RdL.mono hle _ _ (h3 i hi),h4⟩
 | oar e sz k f=>obtain ⟨xs,h1,h2,h3,h4⟩:=H;exact ⟨xs,h1,h2,fun i hi=>RdL.mono hle _ _ (h3 i hi),h4⟩
 | gho V g=>exact ⟨H.1,fun t=>(H.2 t).setX Y _ _ _⟩| ghs V sl=>exact ⟨H.1,fun t=>(H.2 t).setX Y _ _ _⟩
 | bld ty u q=>obtain ⟨b,v,h1,h2,h3,h4⟩:=H;exact ⟨b,v,h1,h2,h3,h4.setX Y _ _ _⟩
 | blk e sz cap kn f=>obtain ⟨h0,b,cs,h1,h2,h3,h4,h5,h6⟩:=H;exact ⟨h0,b,cs,h1,h2,h3,h4,h5,fun i hi=>RdL.mono hle _ _ (h6 i hi)⟩
 | mp l=>exact H| mpe l r s=>exact H
 | mpd sk kn l=>obtain ⟨b,h1,h2⟩:=H;exact ⟨b,h1,h2.mono hle⟩
 | sar e sz k f =>
   rcases H with ⟨xs,h1,h2,h3,h4⟩ | ⟨h1,h2,h3⟩
   ·exact .inl ⟨xs,h1,h2,fun i hi=>RdL.mono hle _ _ (h3 i hi),h4⟩
   ·exact .inr ⟨h1,h2,Rd.mono hle _ _ h3⟩
 | mit kn l la=>exact H
 | hot e k f i d=>obtain ⟨xs,h1,h2,h3,h4,h5⟩:=H;exact ⟨xs,h1,h2,fun j hj hn=>RdL.mono hle _ _ (h3 j hj hn),fun hi=>(h4 hi).setX Y _ _ _,h5⟩
 | fam e sz k f =>
   obtain ⟨xs,Fs,h1,h2,h3,h4,h5,h6,h7⟩:=H;exact ⟨xs,Fs,h1,h2,fun i hi=>(h3 i hi).setX Y,h4,h5,fun b=>by show Y m b ↔ _;rw [hX];exact h6 b,h7⟩
 | famx e sz k f i ds =>
   obtain ⟨xs,Fs,h1,h2,h3,h4,h5,h6,h7,h8,h9,h10⟩:=H;exact ⟨xs,Fs,h1,h2,fun j hj hji=>(h3 j hj hji).setX Y,h4,h5,fun b=>by show Y m b ↔ _;rw [hX];exact h6 b,h7,h8,h9,h10.setX Y _ _ _⟩
theorem rowsF_succ (Fs:Nat->List Nat) (k:Nat):rowsF Fs (k+1)=rowsF Fs k ++ Fs k:=by simp [rowsF,List.range_succ]
theorem rowsF_nodup (Fs:Nat->List Nat):∀ k,(rowsF Fs k).Nodup ↔ (∀ i,i<k->(Fs i).Nodup)/\∀ i j b,i<k->j<k->b ∈ Fs i->b ∈ Fs j->i=j
 | 0=>by simp [rowsF]
 | k+1=>by
   rw [rowsF_succ,List.nodup_append,rowsF_nodup Fs k];constructor
   ·rintro ⟨⟨h1,h2⟩,h3,h4⟩
    refine ⟨fun i hi=>?_,fun i j b hi hj hbi hbj=>?_⟩
    ·rcases Nat.lt_or_eq_of_le (Nat.le_of_lt_succ hi) with h | rfl
     ·exact h1 i h
     ·exact h3
    ·rcases Nat.lt_or_eq_of_le (Nat.le_of_lt_succ hi) with h | rfl<;>rcases Nat.lt_or_eq_of_le (Nat.le_of_lt_succ hj) with h' | rfl
     ·exact h2 i j b h h' hbi hbj
     ·exact absurd rfl (h4 b (rowsF_in h hbi) b hbj)
     ·exact absurd rfl (h4 b (rowsF_in h' hbj) b hbi)
     ·rfl
   ·rintro ⟨h1,h2⟩
    refine ⟨⟨fun i hi=>h1 i (by omega),fun i j b hi hj=>h2 i j b (by omega) (by omega)⟩,h1 k (by omega),fun x hx y hy e=>?_⟩;subst e;obtain ⟨i,hi,hx⟩:=rowsF_of hx;have:=h2 i k x (by omega) (by omega) hx hy;omega
theorem mem_rowsF {Fs:Nat->List Nat} {k b:Nat}:b ∈ rowsF Fs k ↔ ∃ i,i<k/\b ∈ Fs i:=⟨rowsF_of,fun ⟨_,h1,h2⟩=>rowsF_in h1 h2⟩
theorem rowsF_nil (k:Nat):rowsF (fun _=>[]) k = []:=by
 induction k with
 | zero=>rfl
 | succ k ih=>rw [rowsF_succ,ih];rfl
theorem Mem.takeX {Pc:Program} {c:Cx Pc} {M:Mi} {sto:Nat->Box} (H:Mem c M sto) {n:Nat} (hd:sto n≠.dead) (us:List Nat) (hn:n ∉ us) (Y:Nat->Prop)
 (hY:∀ b,Y b->M.X n b\/∃ m,m ∈ us/\sto m≠.dead/\M.O m b) (bx:Box) (hb:BoxOK { M with X:=upd M.X n Y } n bx) (hf:bx≠.dead->bx.isFam=false->∀ b,¬ Y b) :
 Mem c { M with X:=upd M.X n Y } (upd (Sx.killN sto us) n bx):=by
 have live:∀ m,m≠n->upd (Sx.killN sto us) n bx m≠.dead->sto m≠.dead/\m ∉ us:=fun m e h=>by rw [upd_ne _ _ e] at h;exact killN_live h
 have hO:∀ {m b},m≠n->({ M with X:=upd M.X n Y }:Mi).O m b->M.O m b:=fun {m b} e h=>by simp only [Mi.O,upd_ne _ _ e] at h ⊢;exact h
 have hN:∀ {b},({ M with X:=upd M.X n Y }:Mi).O n b->M.O n b\/∃ m,m ∈ us/\sto m≠.dead/\M.O m b:=fun {b} h=>by
  simp only [Mi.O,upd_self] at h
  rcases h with h | h
  ·exact .inl (.inl h)
  ·exact (hY b h).imp .inr id
 refine ⟨H.size,H.frame,H.Slt,H.Sold,fun m hm=>?_,fun m hm=>?_,fun m k b h1 h2 r1 r2=>?_,fun m b h1 r1=>?_,fun m b h1 r1=>?_,fun m h1 hf' b=>?_⟩
 ·by_cases e:m=n
  ·subst e;rw [upd_self];exact hb
  ·rw [upd_ne _ _ e];by_cases hu:m ∈ us
   ·rw [killN_dead _ _ _ hu];trivial
   ·rw [killN_ne _ _ _ hu];exact (H.box m hm).setX _ (upd_ne _ _ e)
 ·have e:m≠n:=fun e=>by subst e;exact absurd (H.lt hd) (Nat.not_lt.2 hm)
  rw [upd_ne _ _ e];by_cases hu:m ∈ us
  ·exact killN_dead _ _ _ hu
  ·rw [killN_ne _ _ _ hu];exact H.dead m hm
 ·by_cases e1:m=n<;>by_cases e2:k=n
  ·rw [e1,e2]
  ·subst e1;obtain ⟨h2,hu⟩:=live k e2 h2
   rcases hN r1 with h | ⟨j,j1,j2,j3⟩
   ·exact H.injO m k b hd h2 h (hO e2 r2)
   ·exact absurd (H.injO j k b j2 h2 j3 (hO e2 r2) ▸ j1) hu
  ·subst e2;obtain ⟨h1,hu⟩:=live m e1 h1
   rcases hN r2 with h | ⟨j,j1,j2,j3⟩
   ·exact H.injO m k b h1 hd (hO e1 r1) h
   ·exact absurd (H.injO j m b j2 h1 j3 (hO e1 r1) ▸ j1) hu
  ·exact H.injO m k b (live m e1 h1).1 (live k e2 h2).1 (hO e1 r1) (hO e2 r2)
 ·by_cases e:m=n
  ·subst e
   rcases hN r1 with h | ⟨j,j1,j2,j3⟩
   ·exact H.sepO m b hd h
   ·exact H.sepO j b j2 j3
  ·exact H.sepO m b (live m e h1).1 (hO e r1)
 ·by_cases e:m=n
  ·subst e
   rcases hN r1 with h | ⟨j,j1,j2,j3⟩
   ·exact H.frO m b hd h
   ·exact H.frO j b j2 j3
  ·exact H.frO m b (live m e h1).1 (hO e r1)
 ·by_cases e:m=n
  ·subst e;rw [upd_self] at h1 hf';simp only [upd_self];exact hf h1 hf' b
  ·have h2:=live m e h1;rw [upd_ne _ _ e,killN_ne _ _ _ h2.2] at hf';simp only [upd_ne _ _ e];exact H.non m h2.1 hf' b
theorem upd_upd {α:Type} (e:Nat->α) (n:Nat) (x y:α):upd (upd e n x) n y=upd e n y:=funext fun t=>by
 by_cases h:t=n
 ·subst h;simp only [upd_self]
 ·simp only [upd_ne _ _ h]
theorem upd_comm {α:Type} (e:Nat->α) {n m:Nat} (hnm:n≠m) (x y:α):upd (upd e n x) m y=upd (upd e m y) n x:=funext fun t=>by
 by_cases h:t=n
 ·subst h;rw [upd_ne _ _ hnm,upd_self,upd_self]
 ·by_cases h' : t=m
  ·subst h';rw [upd_self,upd_ne _ _ h,upd_self]
  ·rw [upd_ne _ _ h',upd_ne _ _ h,upd_ne _ _ h,upd_ne _ _ h']
def ownAt:List D->Nat->Option (Nat × Nat × Nat × (Nat->List D))
 | [],_=>none
 | d :: _,0=>match d with
   | .ftab e sz n f=>some (e,sz,n,f)| _=>none
 | _ :: l,k+1=>ownAt l k
theorem ownAt_od {M:Mi}:∀ {l:List D} {vs:List Value} {F:List Nat} {off e sz n:Nat} {f:Nat->List D},OdL M l vs F->ownAt l off=some (e,sz,n,f)->∃ v F1,vs[off]? = some v/\Od M (.ftab e sz n f) v F1/\(∀ b ∈ F1,b ∈ F)/\v.oneCell' = true
 | d :: l,v :: vs,F,0,e,sz,n,f,h,ho=>by
   simp only [OdL] at h;obtain ⟨h1,F1,F2,rfl,h2,h3⟩:=h;simp only [ownAt] at ho;split at ho
   ·cases ho;exact ⟨v,F1,rfl,h2,fun b hb=>List.mem_append_left _ hb,h1⟩
   ·cases ho
 | d :: l,v :: vs,F,k+1,e,sz,n,f,h,ho=>by
   simp only [OdL] at h;obtain ⟨h1,F1,F2,rfl,h2,h3⟩:=h;obtain ⟨u,G,a1,a2,a3,a4⟩:=ownAt_od h3 (by simpa only [ownAt] using ho);exact ⟨u,G,by simpa using a1,a2,fun b hb=>List.mem_append_right _ (a3 b hb),a4⟩
 | [],[],_,_,_,_,_,_,_,ho=>by simp [ownAt] at ho
 | [],_ :: _,_,_,_,_,_,_,h,_=>by simp [OdL] at h
 | _ :: _,[],_,_,_,_,_,_,h,_=>by simp [OdL] at h
theorem setV_self:∀ (l:List Value) (k:Nat) (v:Value),l[k]? = some v->setV l k [v]=l
 | [],_,_,h=>by simp at h
 | x :: l,0,v,h=>by simp at h;subst h;simp [setV]
 | x :: l,k+1,v,h=>by simp only [setV];rw [setV_self l k v (by simpa using h)]
section
variable {P:Program} {Γ:Ty} {c:Cx P} {nt:Nt} {M:Mi} {st:St} {a:Act} {w:World}
def LeF (l l' : List D):Prop:=∀ (M:Mi) (vs:List Value) (F:List Nat),OdL M l vs F->OdL M l' vs F
theorem LeF.refl (l:List D):LeF l l:=fun _ _ _ h=>h
theorem LeF.cons {d d' : D} {l l' : List D} (h:∀ (M:Mi) (v:Value) (F:List Nat),Od M d v F->Od M d' v F) (hl:LeF l l'):LeF (d :: l) (d' :: l'):=fun M vs F ho=>by
 match vs,ho with
 | v :: vs,ho =>
   simp only [OdL] at ho ⊢;obtain ⟨h1,F1,F2,rfl,h2,h3⟩:=ho;exact ⟨h1,F1,F2,rfl,h M v F1 h2,hl M vs F2 h3⟩
 | [],ho=>simp [OdL] at ho
theorem Od.nil_ftab {M:Mi} {v:Value} {F:List Nat} (e sz:Nat) (f:Nat->List D) (h:Od M .nil v F):Od M (.ftab e sz 0 f) v F:=by
 simp only [Od,Rd] at h ⊢;obtain ⟨rfl,rfl⟩:=h;exact ⟨⟨[],⟨by simp,.inl ⟨rfl,rfl⟩⟩,fun i hi=>absurd hi (Nat.not_lt_zero i),nofun⟩,rfl⟩
theorem Od.ftab_ext {M:Mi} {v:Value} {F:List Nat} {e sz n n' : Nat} {f g:Nat->List D} (h:Od M (.ftab e sz n f) v F) (hn:n=n') (hg:∀ i,i<n->f i=g i):Od M (.ftab e sz n' g) v F:=by
 subst hn;simp only [Od] at h ⊢;obtain ⟨⟨xs,h1,h2,h3⟩,hF⟩:=h;exact ⟨⟨xs,h1,fun i hi=>by rw [<-hg i hi];exact h2 i hi,h3⟩,hF⟩
theorem LeF.nil_ftab {l:List D} (e sz:Nat) {n:Nat} (f:Nat->List D) (hn:n=0):LeF (.nil :: l) (.ftab e sz n f :: l):=.cons (fun _ _ _ h=>by subst hn;exact h.nil_ftab e sz f) (.refl l)
theorem LeF.ftab {l:List D} {e sz n n' : Nat} {f g:Nat->List D} (hn:n=n') (hg:∀ i,i<n->f i=g i):LeF (.ftab e sz n f :: l) (.ftab e sz n' g :: l):=.cons (fun _ _ _ h=>h.ftab_ext hn hg) (.refl l)
structure Row (l0:List D) (K:List D->Prop):Prop where
 ok:∃ l,LeF l0 l/\K l
theorem Row.by {l0:List D} {K:List D->Prop} (l:List D) (h:LeF l0 l) (hk:Step (K l)):Row l0 K:=⟨l,h,hk.out⟩
def famLd (Γ:Ty) (st:St) (t n sz i off:Nat) (K:D->St->Prop) (no:Prop):Prop :=
 match (Γ.get t).k with
 | .slice _=>match st.sto n with
   | .fam e sz' k f=>match Nat.beq sz sz' with
     | true=>Row (f i) fun l=>match ownAt l off with
       | some (e2,s2,m,g)=>Vc (i<k) (st.on fun e_ s_ k_=>K (.own k_) ⟨e_,upd (upd s_ n (.famx e sz' k f i (setL (plainL l) off [.own k_]))) k_ (.arr e2 s2 m g),k_+1⟩)| none=>no
     | false=>no
   | _=>no
 | _=>no
theorem famLd_ok (H:TyOK P Γ) (R:RelM c nt M st a w) {t n sz i off:Nat} {p:Value} {K:D->St->Prop} {no:Prop} (h:famLd Γ st t n sz i off K no) (hp:Rd M false (.pel n sz i off) p) :
 no\/∃ d st' v M',K d st'/\RelM c nt M' st' a w/\Rd M' false d v/\(Instr.loadAt t p).run P w = .ok v w:=by
 unfold famLd at h;split at h
 case h_2=>exact .inl h
 rename_i et hk;split at h
 case h_2=>exact .inl h
 rename_i e sz' k f hs;split at h
 case h_2=>exact .inl h
 rename_i e1;have e1:=nbq e1;subst e1;obtain ⟨l,hlf,h⟩:=h;split at h
 case h_2=>exact .inl h
 rename_i e2 s2 m g hown
 right
 obtain ⟨hi,hK⟩:=h;simp only [Rd] at hp;obtain ⟨_,hn,b,hρ,rfl⟩:=hp
 have hd:st.sto n≠.dead:=by rw [hs];simp
 have hb:=R.mem.box n hn;rw [hs] at hb;obtain ⟨xs,Fs,h1,h2,h3,h4,h5,h6,h7⟩:=hb;obtain ⟨v,F1,hv,hod,hF1,hv1⟩:=ownAt_od (hlf _ _ _ (h3 i hi)) hown;rw [rowsF_nodup] at h5
 have hF' : ∀ {x},x ∈ rowsF (upd Fs i []) k ↔ ∃ j,j<k/\j≠i/\x ∈ Fs j:=fun {x}=>by
  rw [mem_rowsF];constructor
  ·rintro ⟨j,j1,j2⟩
   by_cases e:j=i
   ·subst e;rw [upd_self] at j2;cases j2
   ·rw [upd_ne _ _ e] at j2;exact ⟨j,j1,e,j2⟩
  ·rintro ⟨j,j1,e,j2⟩
   exact ⟨j,j1,by rw [upd_ne _ _ e];exact j2⟩
 have hpl:=(hlf _ _ _ (h3 i hi)).plain
 have bx:∀ ds (M' : Mi),M'.h=M.h->M'.ρ n=M.ρ n->M'.hv n=M.hv n->(∀ x,M.S x->M'.S x)->M'.X n=(fun x=>x ∈ rowsF (upd Fs i []) k)->RdL M' false ds ((xs.drop (i*sz)).take sz)->BoxOK M' n (.famx e sz k f i ds):=fun ds M' hh hr hv hS hX hds=>by
  refine ⟨xs,upd Fs i [],by rw [hh,hv];exact h1,by rw [hr,hv];exact h2,fun j hj hji=>?_,h4,?_,fun x=>by rw [hX],fun x hx=>?_,hi,upd_self _ _ _,hds⟩
  ·rw [upd_ne _ _ hji];exact OdL.mono hS (fun _ _=>by rw [hh]) _ _ _ (h3 j hj) fun _ _=>by rw [hh]
  ·rw [rowsF_nodup];refine ⟨fun j hj=>?_,fun j j' x hj hj' hx hx'=>?_⟩
   ·by_cases e:j=i
    ·subst e;rw [upd_self];exact List.nodup_nil
    ·rw [upd_ne _ _ e];exact h5.1 j hj
   ·by_cases e:j=i
    ·subst e;rw [upd_self] at hx;cases hx
    ·by_cases e' : j' = i
     ·subst e';rw [upd_self] at hx';cases hx'
     ·rw [upd_ne _ _ e] at hx;rw [upd_ne _ _ e'] at hx';exact h5.2 j j' x hj hj' hx hx'
  ·rw [hv];obtain ⟨j,j1,_,j2⟩:=hF'.1 hx;exact h7 x (rowsF_in j1 j2)
 have m1:=R.mem.takeX hd [] (by simp) (fun x=>x ∈ rowsF (upd Fs i []) k) (fun x hx=>by
  obtain ⟨j,j1,_,j2⟩:=hF'.1 hx
  exact .inl ((h6 x).2 (rowsF_in j1 j2))) (.famx e sz k f i (plainL l)) (bx _ _ rfl rfl rfl (fun _ h=>h) (upd_self _ _ _) (RdL.im _ _ _ (RdL.mono (M.leX (upd M.X n fun x=>x ∈ rowsF (upd Fs i []) k)) _ _ hpl))) (fun _ h=>by cases h)
 have m1:Mem c { M with X:=upd M.X n fun x=>x ∈ rowsF (upd Fs i []) k } (upd st.sto n (.famx e sz k f i (plainL l))):=m1;simp only [Od] at hod;obtain ⟨⟨ys,p1,p2,p3⟩,rfl⟩:=hod
 have hin:∀ x,v.ownBlock=some x->x ∈ Fs i:=fun x hx=>hF1 x (by simp [hx])
 have hMO:∀ x,v.ownBlock=some x->M.O n x:=fun x hx=>.inr ((h6 x).2 (rowsF_in hi (hin x hx)))
 have hlg:M.Le (({ M with X:=upd M.X n fun x=>x ∈ rowsF (upd Fs i []) k }:Mi).give v.ownBlock v) true:=⟨fun _ h=>h,fun _ _=>rfl,by simp,by simp,by simp,by simp⟩
 have m2:=m1.adopt v.ownBlock v (.arr e2 s2 m g) ⟨ys,by simpa [Mi.give,upd_self] using p1,by simp [Mi.give,upd_self],fun j hj=>RdL.mono hlg _ _ (p2 j hj),p3⟩
  (fun x hx=>R.mem.sepO n x hd (hMO x hx)) (fun j x hx hj ho=>by
    by_cases e:j=n
    ·subst e;simp only [Mi.O,upd_self] at ho
     rcases ho with ho | ho
     ·exact h7 x (rowsF_in hi (hin x hx)) (by rw [<-h2];exact ho)
     ·obtain ⟨j,j1,j2,j3⟩:=hF'.1 ho;exact j2 (h5.2 j i x j1 hi j3 (hin x hx))
    ·rw [upd_ne _ _ e] at hj;simp only [Mi.O,upd_ne _ _ e] at ho
     exact e (R.mem.injO j n x hj hd ho (hMO x hx)))
  (fun x hx=>R.mem.frO n x hd (hMO x hx))
 have hnx:n≠M.nx:=Nat.ne_of_lt hn
 have hc1:Rd (({ M with X:=upd M.X n fun x=>x ∈ rowsF (upd Fs i []) k }:Mi).give v.ownBlock v) false (.own M.nx) v:=by
  obtain ⟨ad,cap,he,_⟩:=ownsH_len p1;simp only [Rd,Mi.give,upd_self];exact ⟨trivial,Nat.lt_succ_self _,trivial,ad,m,cap,he⟩
 have hle1:∀ d u,Rd M false d u->Rd (({ M with X:=upd M.X n fun x=>x ∈ rowsF (upd Fs i []) k }:Mi).give v.ownBlock v) false d u:=fun d u h=>Rd.mono (Mi.give_le _ _ _ false) _ _ (h.setX _ _ _ _)
 obtain ⟨m3,_⟩:=m2.setO (n:=n) (by rw [upd_ne _ _ hnx,upd_self];simp) M.h rfl (fun _ _=>rfl) (.famx e sz k f i (setL (plainL l) off [.own M.nx])) (bx _ _ rfl (by simp only [Mi.give];exact upd_ne _ _ hnx) (by simp only [Mi.give];exact upd_ne _ _ hnx) (fun _ h=>h) (by simp only [Mi.give];rw [upd_ne _ _ hnx,upd_self]) (by
  rw [<-setV_self _ off v hv];refine RdL.set (RdL.im _ _ _ (RdL.mono hlg _ _ hpl)) ?_;simp only [RdL]
  exact ⟨hv1,hc1,trivial⟩)) (fun _ h=>by cases h)
 have m3:Mem c (({ M with X:=upd M.X n fun x=>x ∈ rowsF (upd Fs i []) k }:Mi).give v.ownBlock v) (upd (upd st.sto n (.famx e sz k f i (setL (plainL l) off [.own M.nx]))) M.nx (.arr e2 s2 m g)):=by
  rw [upd_comm _ hnx.symm,upd_upd] at m3;exact m3
 have hKK:K (.own M.nx) ⟨st.env,upd (upd st.sto n (.famx e sz k f i (setL (plainL l) off [.own M.nx]))) M.nx (.arr e2 s2 m g),M.nx+1⟩:=by rw [R.nx];exact hK
 refine ⟨_,_,v,({ M with X:=upd M.X n fun x=>x ∈ rowsF (upd Fs i []) k }:Mi).give v.ownBlock v,hKK,⟨R.h,rfl,m3,fun u=>hle1 _ _ (R.env u),R.sz,R.defs,R.os,R.tape,R.output⟩,hc1,?_⟩
 rcases h1.2 with ⟨_,hn0⟩ | ⟨g',cap,cur,hg,hblk,hnc,hcm,hcs,ht⟩
 ·omega
 have hbg:b=g':=by rw [hρ,hg] at h2;simpa [Value.ownBlock] using h2
 subst hbg;have hcs:=arr_cells h1.1 hi (h1.cells (b:=b) (by rw [hg];rfl));rw [run_loadAt H hk (by simp) w b _ [v] (fun j hj=>?_) (fun h0=>by simp [TK.isAgg] at h0) (fun _=>rfl)]
 ·simp [TK.isAgg]
 ·obtain rfl:j=0:=by simpa using hj
  have hol:off<((xs.drop (i*sz)).take sz).length:=(List.getElem?_eq_some_iff.1 hv).1;rw [h1.hoff,Nat.zero_add,Nat.add_zero];have:=hcs.2 off hol;rw [hv] at this
  show cellAt w.heap b _=_
  rw [<-R.h];exact this
def famCl (st:St) (n:Nat) (K:St->Prop) (no:Prop):Prop :=
 match st.sto n with
 | .famx e sz k f i ds=>lesL (giD st.sto 2) ds [] fun l us=>match memN n us with
   | true=>False
   | false=>st.on fun e_ s_ k_=>K ⟨e_,upd (killN s_ us) n (.fam e sz k fun j=>if j=i then l else f j),k_⟩
 | _=>no
theorem famCl_ok (R:RelM c nt M st a w) {n:Nat} {K:St->Prop} {no:Prop} (h:famCl st n K no):no\/∃ st' M',K st'/\RelM c nt M' st' a w/\∀ d v,Rd M false d v->Rd M' false d v:=by
 unfold famCl at h;split at h
 case h_2=>exact .inl h
 rename_i e sz k f i ds hs
 right
 have hd:st.sto n≠.dead:=by rw [hs];simp
 have hn:=R.mem.lt hd;have hb:=R.mem.box n hn;rw [hs] at hb;obtain ⟨xs,Fs,h1,h2,h3,h4,h5,h6,h7,h8,h9,h10⟩:=hb;obtain ⟨l,us,F,hK,G,hod⟩:=lesL_gi R.mem (fun d v us K=>giD_ok R.mem 2 d v us K) _ _ [] _ h10 h;split at hK
 case h_1=>exact hK.elim
 rename_i hmem
 have hnu:n ∉ us:=fun h=>by rw [memN_iff.2 h] at hmem;cases hmem
 rw [rowsF_nodup] at h5
 have hF:∀ {x},x ∈ rowsF (upd Fs i F) k ↔ x ∈ rowsF Fs k\/x ∈ F:=fun {x}=>by
  rw [mem_rowsF,mem_rowsF];constructor
  ·rintro ⟨j,j1,j2⟩
   by_cases e:j=i
   ·subst e;rw [upd_self] at j2;exact .inr j2
   ·rw [upd_ne _ _ e] at j2;exact .inl ⟨j,j1,j2⟩
  ·rintro (⟨j,j1,j2⟩ | h)
   ·by_cases e:j=i
    ·subst e;rw [h9] at j2;cases j2
    ·exact ⟨j,j1,by rw [upd_ne _ _ e];exact j2⟩
   ·exact ⟨i,h8,by rw [upd_self];exact h⟩
 have hFX:∀ x ∈ F,x ∉ rowsF Fs k:=fun x hx hx'=>by
  obtain ⟨m,m1,_,m3,m4⟩:=G.at_ x hx;exact hnu (R.mem.injO m n x m3 hd m4 (.inr ((h6 x).2 hx')) ▸ m1)
 have m1:=R.mem.takeX hd us hnu (fun x=>x ∈ rowsF (upd Fs i F) k) (fun x hx=>by
  rcases hF.1 hx with hx | hx
  ·exact .inl ((h6 x).2 hx)
  ·obtain ⟨m,m1,_,m3,m4⟩:=G.at_ x hx
   exact .inr ⟨m,m1,m3,m4⟩) (.fam e sz k fun j=>if j=i then l else f j) (by
  refine ⟨xs,upd Fs i F,h1,h2,fun j hj=>?_,h4,?_,fun x=>by simp only [upd_self],fun x hx=>?_⟩
  ·by_cases e:j=i
   ·subst e;dsimp only;rw [if_pos rfl,upd_self];exact hod.setX _
   ·dsimp only;rw [if_neg e,upd_ne _ _ e];exact (h3 j hj e).setX _
  ·rw [rowsF_nodup];refine ⟨fun j hj=>?_,fun j j' x hj hj' hx hx'=>?_⟩
   ·by_cases e:j=i
    ·subst e;rw [upd_self];exact G.nd
    ·rw [upd_ne _ _ e];exact h5.1 j hj
   ·by_cases e:j=i<;>by_cases e' : j' = i
    ·rw [e,e']
    ·subst e;rw [upd_self] at hx;rw [upd_ne _ _ e'] at hx';exact absurd (rowsF_in hj' hx') (hFX x hx)
    ·subst e';rw [upd_self] at hx';rw [upd_ne _ _ e] at hx;exact absurd (rowsF_in hj hx) (hFX x hx')
    ·rw [upd_ne _ _ e] at hx;rw [upd_ne _ _ e'] at hx';exact h5.2 j j' x hj hj' hx hx'
  ·rcases hF.1 hx with hx | hx
   ·exact h7 x hx
   ·intro ho;obtain ⟨m,m1,_,m3,m4⟩:=G.at_ x hx
    exact hnu (R.mem.injO m n x m3 hd m4 (.inl (by rw [h2];exact ho)) ▸ m1)) (fun _ h=>by cases h)
 exact ⟨_,{ M with X:=upd M.X n fun x=>x ∈ rowsF (upd Fs i F) k },hK,⟨R.h,R.nx,m1,fun u=>(R.env u).setX _ _ _ _,R.sz,R.defs,R.os,R.tape,R.output⟩,fun d v h=>h.setX _ _ _ _⟩
def closeN:Nat->St->(St->Prop)->Prop
 | 0,st,K=>K st| n+1,st,K=>famCl st n (fun st=>closeN n st K) (closeN n st K)
theorem closeN_ok:∀ (n:Nat) {M:Mi} {st:St} {K:St->Prop},RelM c nt M st a w->closeN n st K->∃ st' M',K st'/\RelM c nt M' st' a w/\∀ d v,Rd M false d v->Rd M' false d v
 | 0,M,st,K,R,h=>⟨st,M,h,R,fun _ _ h=>h⟩
 | n+1,M,st,K,R,h=>by
   simp only [closeN] at h
   rcases famCl_ok R h with h | ⟨st1,M1,h,R1,r1⟩
   ·exact closeN_ok n R h
   ·obtain ⟨st2,M2,h,R2,r2⟩:=closeN_ok n R1 h;exact ⟨st2,M2,h,R2,fun d v h=>r2 d v (r1 d v h)⟩
theorem RelM.storeX (R:RelM c nt M st a w) {n b:Nat} {bx:Box} (hd:st.sto n≠.dead) (hX:(st.sto n).isFam=bx.isFam) (hρ:M.ρ n=some b) {cur cs:Array Value} {ty:Nat} (hb:M.h[b]? = some (.cells cur ty (0,0)))
 (hbx:∀ (M' : Mi),M.Le M' false->M'.ρ n=some b->M'.hv n=M.hv n->M'.h[b]? = some (.cells cs ty (0,0))->(∀ k,k≠b->M'.h[k]? = M.h[k]?)->BoxOK M' n bx) :
 ∃ M',RelM c nt M' ⟨st.env,upd st.sto n bx,st.nxt⟩ a (w.setRow b cs):=by
 have hb' : w.heap[b]? = some (.cells cur ty (0,0)):=by rw [<-R.h];exact hb
 have hn:=setRow_heap w b cur cs ty (0,0) hb'
 have hsz:(w.setRow b cs).heap.size=w.heap.size:=by simp [World.setRow]
 have ho:∀ k,k≠b->(w.setRow b cs).heap[k]? = M.h[k]?:=fun k hk=>by rw [setRow_other w b k cs hk,R.h]
 have hle:M.Le { M with h:=(w.setRow b cs).heap } false:=⟨fun _ h=>h,fun k hk=>ho k (fun e=>R.mem.sep n b hd hρ (e ▸ hk)),fun _=>Nat.le_refl _,fun _ _ _=>rfl,fun _ _ _=>rfl,fun _ _ _=>rfl⟩;obtain ⟨hm,hle⟩:=R.mem.set hd hρ (w.setRow b cs).heap (by rw [hsz,R.h]) ho bx (hbx _ hle hρ rfl hn ho) hX;exact ⟨_,R.go hle hm rfl R.nx rfl rfl rfl⟩
def famSt (Γ:Ty) (st:St) (t n sz i off:Nat) (d:D) (K:St->Prop) (no:Prop):Prop :=
 match st.sto n with
 | .famx e sz' k f i' ds=>match Nat.beq sz sz',szB Γ t 1,d.cell,Nat.blt off ds.length with
   | true,true,true,true=>Vc (i=i') (st.on fun e_ s_ k_=>famCl ⟨e_,upd s_ n (.famx e sz' k f i' (setL ds off [d])),k_⟩ n K False)| _,_,_,_=>False
 | _=>no
theorem famSt_ok (H:TyOK P Γ) (R:RelM c nt M st a w) {t n sz i off:Nat} {d:D} {x v:Value} {K:St->Prop} {no:Prop} (h:famSt Γ st t n sz i off d K no) (hp:Rd M false (.pel n sz i off) x) (hv:Rd M false d v) :
 no\/∃ st' M' w',K st'/\RelM c nt M' st' a w'/\(Instr.storeAt t x v).run P w = .ok () w':=by
 unfold famSt at h;split at h
 case h_2=>exact .inl h
 rename_i e sz' k f i' ds hs;split at h
 case h_2=>exact h.elim
 rename_i e1 hsz hc hlt
 right
 have e1:=nbq e1;subst e1;obtain ⟨rfl,h⟩:=h;simp only [Rd] at hp;obtain ⟨_,hn,b,hρ,rfl⟩:=hp
 have hd:st.sto n≠.dead:=by rw [hs];simp
 have hb:=R.mem.box n hn;rw [hs] at hb;obtain ⟨xs,Fs,h1,h2,h3,h4,h5,h6,h7,h8,h9,h10⟩:=hb;obtain ⟨v1,v2⟩:=hv.cell hc
 have hvl:v.cells.toList = [v]:=by rw [v2]
 rcases h1.2 with ⟨hnil,hn0⟩ | ⟨g,cap,cur,hg,hblk,hnc,hcm,hcs,ht⟩
 ·omega
 have h2':=h2;rw [hρ,hg] at h2';simp only [Value.ownBlock,Option.some.injEq] at h2';subst h2'
 have hw:w.heap[b]? = some (.cells cur e (0,0)):=by rw [<-R.h];exact hblk
 have hcl:cur.toList.length=cap*sz:=by simpa using hcs
 have hxl:=h1.1
 have hik:i*sz+sz<=k*sz:=by rw [<-Nat.succ_mul];exact Nat.mul_le_mul_right _ h8
 have hkc:k*sz<=cap*sz:=Nat.mul_le_mul_right _ hnc
 have hoff:off<sz:=by
  have:=h10.length
  have h0:off<ds.length:=by simpa [Nat.blt_eq] using hlt
  simp at this;omega
 obtain ⟨M',R'⟩:=R.storeX hd (by rw [hs];rfl) hρ (cs:=(setV cur.toList (i*sz+off) [v]).toArray) hblk (bx:=.famx e sz k f i (setL ds off [d])) fun M' hle hρ' hv' hb' hot=>by
  have el:∀ j,j<k->(((setV cur.toList (i*sz+off) [v]).take (k*sz)).drop (j*sz)).take sz=if j=i then setV ((xs.drop (j*sz)).take sz) off [v] else (xs.drop (j*sz)).take sz:=fun j hj=>by
   have hjk:j*sz+sz<=k*sz:=by rw [<-Nat.succ_mul];exact Nat.mul_le_mul_right _ hj
   apply List.ext_getElem?;intro q;by_cases hq:q<sz
   ·rw [List.getElem?_take,if_pos hq,List.getElem?_drop,List.getElem?_take,if_pos (by omega),get_setV _ _ _ _ (by simp;omega)];by_cases e0:j=i
    ·subst e0;rw [if_pos rfl,get_setV _ _ _ _ (by simp [hxl];omega)];by_cases hin:off<=q/\q<off + [v].length
     ·rw [if_pos (by omega),if_pos hin];congr 1;omega
     ·rw [if_neg (by omega),if_neg hin,List.getElem?_take,if_pos hq,List.getElem?_drop,<-ht,List.getElem?_take,if_pos (by omega)]
    ·have hne:j*sz+sz<=i*sz\/i*sz+sz<=j*sz:=by
      rcases Nat.lt_or_gt_of_ne e0 with h | h
      ·exact .inl (by rw [<-Nat.succ_mul];exact Nat.mul_le_mul_right _ h)
      ·exact .inr (by rw [<-Nat.succ_mul];exact Nat.mul_le_mul_right _ h)
     rw [if_neg e0,if_neg (by simp;omega),List.getElem?_take,if_pos hq,List.getElem?_drop,<-ht,List.getElem?_take,if_pos (by omega)]
   ·rw [List.getElem?_eq_none (by simp;omega)];split
    ·rw [List.getElem?_eq_none (by rw [length_setV];simp;omega)]
    ·rw [List.getElem?_eq_none (by simp;omega)]
  have hX:=hle.X rfl n hn;refine ⟨(setV cur.toList (i*sz+off) [v]).take (k*sz),Fs,⟨by rw [List.length_take,length_setV];omega,.inr ⟨b,cap,_,by rw [hv'];exact hg,hb',hnc,hcm,by simp [length_setV,hcs],by simp⟩⟩,by rw [hρ',hv',hg];rfl,fun j hj hji=>?_,fun u hu=>?_,h5,fun y=>by rw [hX];exact h6 y,by rw [hv'];exact h7,h8,h9,?_⟩
  ·rw [el j hj,if_neg hji]
   exact OdL.mono hle.S hle.h _ _ _ (h3 j hj hji) fun y hy=>hot y fun e=>h7 y (rowsF_in hj hy) (by rw [hg,e];rfl)
  ·obtain ⟨q,hq⟩:=List.mem_iff_getElem?.1 hu
   have hqk:q<k*sz:=by
    have:=(List.getElem?_eq_some_iff.1 hq).1;rw [List.length_take] at this;omega
   rw [List.getElem?_take,if_pos hqk,get_setV _ _ _ _ (by simp;omega)] at hq;by_cases hin:i*sz+off<=q/\q<i*sz+off + [v].length
   ·rw [if_pos hin] at hq;have:=List.mem_of_getElem? hq;simp only [List.mem_singleton] at this;rw [this];exact v1
   ·rw [if_neg hin] at hq;refine h4 u ?_;rw [<-ht];refine List.mem_of_getElem? (i:=q) ?_;rw [List.getElem?_take,if_pos hqk];exact hq
  ·rw [el i h8,if_pos rfl];exact (RdL.mono hle _ _ h10).set (by simp only [RdL];exact ⟨v1,Rd.mono hle _ _ hv,trivial⟩)
 have hcc:(st.on fun e_ s_ k_=>famCl ⟨e_,upd s_ n (.famx e sz k f i (setL ds off [d])),k_⟩ n K False)=famCl ⟨st.env,upd st.sto n (.famx e sz k f i (setL ds off [d])),st.nxt⟩ n K False:=rfl;rw [hcc] at h
 rcases famCl_ok R' h with h | ⟨st2,M2,hK,R2,_⟩
 ·exact h.elim
 rw [show Sx.hoff (M.hv n)=0 by rw [hg];rfl,Nat.zero_add]
 exact ⟨st2,M2,_,hK,R2,by
  have:=run_storeAt (P:=P) H hsz w b (i*sz+off) cur e hw v (by rw [v2];rfl) (by rw [v2];simp;omega) (by rw [v2];simpa using v1)
  rw [hvl] at this;exact this⟩
theorem OdL.any {M:Mi}:∀ (vs:List Value),(∀ u ∈ vs,u.oneCell' = true)->OdL M (List.replicate vs.length .any) vs []
 | [],_=>by simp [OdL]
 | v :: vs,h=>by
   simp only [List.length_cons,List.replicate_succ,OdL];exact ⟨h v (by simp),[],[],rfl,by simp [Od,Rd],OdL.any vs fun u hu=>h u (List.mem_cons_of_mem _ hu)⟩
theorem upd_killN (s:Nat->Box) (n:Nat) (x y:Box) (us:List Nat):upd (killN (upd s n x) us) n y=upd (killN s us) n y:=funext fun t=>by
 by_cases e:t=n
 ·subst e;rw [upd_self,upd_self]
 ·rw [upd_ne _ _ e,upd_ne _ _ e];by_cases hu:t ∈ us
  ·rw [killN_dead _ _ _ hu,killN_dead _ _ _ hu]
  ·rw [killN_ne _ _ _ hu,killN_ne _ _ _ hu,upd_ne _ _ e]
theorem fam_grown (R:RelM c nt M st a w) {n e sz k m:Nat} {f g:Nat->List D} (hs:st.sto n = .fam e sz k f) {w' : World} {v' : Value} {news:List Value} (us:List Nat) (hnu:n ∉ us) (Gs:Nat->List Nat)
 (hgr:∀ xs,OwnsH w.heap e sz (M.hv n) k xs->OwnsH w'.heap e sz v' (k+m) (xs ++ news)) (hnl:news.length=m*sz) (hel:∀ i,i<m->OdL M (g i) ((news.drop (i*sz)).take sz) (Gs i)) (h1:∀ u ∈ news,u.oneCell' = true)
 (hnd:(rowsF Gs m).Nodup) (hG:∀ b ∈ rowsF Gs m,∃ q,q ∈ us/\st.sto q≠.dead/\M.O q b)
 (ho:w'.os=w.os) (htp:w'.tape=w.tape) (hout:w'.output=w.output) (hge:w.heap.size<=w'.heap.size) (hold:∀ b,b<w.heap.size->(M.hv n).ownBlock≠some b->w'.heap[b]? = w.heap[b]?)
 (hblk:∀ b,v'.ownBlock=some b->(M.hv n).ownBlock=some b\/w.heap.size<=b) :
 ∃ M',RelM c nt M' ⟨fun t=>D.sub n .any (st.env t),upd (killN (fun j=>(st.sto j).sub n .any) us) n (.fam e sz (k+m) fun i=>if i<k then f i else g (i - k)),st.nxt⟩ a w'/\Rd M' false (.own n) v':=by
 have hd:st.sto n≠.dead:=by rw [hs];simp
 have hn:=R.mem.lt hd;have hb:=R.mem.box n hn;rw [hs] at hb;obtain ⟨xs,Fs,o1,o2,o3,o4,o5,o6,o7⟩:=hb
 have hsz' : M.h.size=w.heap.size:=by rw [R.h]
 have hown:=hgr xs (by rw [<-R.h];exact o1);have hxl:=o1.1
 have hoO:∀ b,M.O n b->b<w.heap.size:=fun b hb=>by rw [<-hsz'];exact R.mem.bltO hd hb
 have hS:∀ b,M.S b->w'.heap[b]? = M.h[b]?:=fun b hb=>by
  rw [R.h];exact hold b (by rw [<-hsz'];exact R.mem.Slt b hb) fun e=>R.mem.sep n b hd (by rw [o2];exact e) hb
 have hX:∀ b,M.X n b->w'.heap[b]? = M.h[b]?:=fun b hb=>by
  rw [R.h];exact hold b (hoO b (.inr hb)) fun e=>o7 b ((o6 b).1 hb) e
 have hGn:∀ b ∈ rowsF Gs m,(M.hv n).ownBlock≠some b/\b ∉ rowsF Fs k/\b<w.heap.size:=fun b hb=>by
  obtain ⟨q,q1,q2,q3⟩:=hG b hb
  have hne:q≠n:=fun e=>hnu (e ▸ q1)
  exact ⟨fun e=>hne (R.mem.injO q n b q2 hd q3 (.inl (by rw [o2];exact e))),fun e=>hne (R.mem.injO q n b q2 hd q3 (.inr ((o6 b).2 e))),by rw [<-hsz'];exact R.mem.bltO q2 q3⟩
 have hX2:∀ b ∈ rowsF Gs m,w'.heap[b]? = M.h[b]?:=fun b hb=>by
  obtain ⟨g1,_,g3⟩:=hGn b hb;rw [R.h];exact hold b g3 g1
 have cut:∀ i,i<k+m->(((xs ++ news).drop (i*sz)).take sz)=if i<k then (xs.drop (i*sz)).take sz else (news.drop ((i - k)*sz)).take sz:=fun i hi=>by
  split
  ·rename_i hik
   have hi' : i*sz+sz<=k*sz:=by rw [<-Nat.succ_mul];exact Nat.mul_le_mul_right _ hik
   rw [List.drop_append_of_le_length (by omega),List.take_append_of_le_length (by simp;omega)]
  ·have e1:i*sz=xs.length+(i - k)*sz:=by rw [hxl,<-Nat.add_mul];congr 1;omega
   rw [e1,List.drop_append,ddl (by omega),List.nil_append,Nat.add_sub_cancel_left]
 have one:∀ u ∈ xs ++ news,u.oneCell' = true:=fun u hu=>by
  rcases List.mem_append.1 hu with h | h
  ·exact o4 u h
  ·exact h1 u h
 have hv'X:∀ b,b ∈ rowsF Fs k\/b ∈ rowsF Gs m->v'.ownBlock≠some b:=fun b hb he=>by
  rcases hblk b he with h | h
  ·rcases hb with hb | hb
   ·exact o7 b hb h
   ·exact (hGn b hb).1 h
  ·rcases hb with hb | hb
   ·have:=hoO b (.inr ((o6 b).2 hb));omega
   ·have:=(hGn b hb).2.2;omega
 have tr:∀ (M' : Mi) (l:List D) (vs:List Value) (F:List Nat),M'.S=M.S->M'.h=w'.heap->OdL M l vs F->(∀ b ∈ F,w'.heap[b]? = M.h[b]?)->OdL M' l vs F:=fun M' l vs F e1 e2 h hF =>
  OdL.mono (M:=M) (M':=M') (fun b hb=>by rw [e1];exact hb) (fun b hb=>by rw [e2];exact hS b hb) l vs F h fun b hb=>by rw [e2];exact hF b hb
 have ext:∀ j,rowsF (fun i=>if i<k then Fs i else []) (k+j)=rowsF Fs k:=fun j=>by
  induction j with
  | zero =>
    have:∀ q,q<=k->rowsF (fun i=>if i<k then Fs i else []) q=rowsF Fs q:=fun q=>by
     induction q with
     | zero=>intro _;rfl
     | succ q ih=>intro hq;rw [rowsF_succ,rowsF_succ,ih (by omega),if_pos (by omega)]
    exact this k (Nat.le_refl _)
  | succ j ih=>rw [<-Nat.add_assoc,rowsF_succ,ih,if_neg (by omega),List.append_nil]
 obtain ⟨m1,hle⟩:=R.mem.rehomeX hd v'.ownBlock v' (M.X n) w'.heap (by rw [hsz'];exact hge) (fun b hb hne=>by rw [R.h];exact hold b (by omega) fun e=>hne (.inl (by rw [o2];exact e)))
  (fun b hb=>by
    rcases hb with hb | hb
    ·exact (hblk b hb).imp (fun h=>.inl (by rw [o2];exact h)) (fun h=>by rw [hsz'];exact h)
    ·exact .inl (.inr hb)) (.fam e sz (k+m) fun i=>if i<k then f i else List.replicate sz .any) nofun (by
    refine ⟨xs ++ news,fun i=>if i<k then Fs i else [],by simpa [upd_self] using hown,by simp [upd_self],fun i hi=>?_,one,by rw [ext];exact o5,fun b=>by simp only [upd_self];rw [ext];exact o6 b,fun b hb=>by simp only [upd_self];rw [ext] at hb;exact hv'X b (.inl hb)⟩;rw [cut i hi];by_cases hik:i<k
    ·simp only [hik,if_true]
     exact tr _ _ _ _ rfl rfl (o3 i hik) fun b hb=>hX b ((o6 b).2 (rowsF_in hik hb))
    ·simp only [hik,if_false]
     have hl:((news.drop ((i - k)*sz)).take sz).length=sz:=by
      have:(i - k)*sz+sz<=m*sz:=by rw [<-Nat.succ_mul];exact Nat.mul_le_mul_right _ (by omega)
      simp;omega
     have:=OdL.any (M:={ M with ρ:=upd M.ρ n v'.ownBlock,hv:=upd M.hv n v',h:=w'.heap,X:=upd M.X n (M.X n) }) ((news.drop ((i - k)*sz)).take sz) (fun u hu=>h1 u (List.mem_of_mem_drop (List.mem_of_mem_take hu)))
     rw [hl] at this;exact this)
 have hd1:upd (fun j=>(st.sto j).sub n .any) n (.fam e sz (k+m) fun i=>if i<k then f i else List.replicate sz .any) n≠.dead:=by rw [upd_self];simp
 have hmem:∀ {b},b ∈ rowsF (fun i=>if i<k then Fs i else Gs (i - k)) (k+m) ↔ b ∈ rowsF Fs k\/b ∈ rowsF Gs m:=fun {b}=>by
  rw [mem_rowsF,mem_rowsF,mem_rowsF];constructor
  ·rintro ⟨i,i1,i2⟩
   split at i2
   ·exact .inl ⟨i,by assumption,i2⟩
   ·exact .inr ⟨i - k,by omega,i2⟩
  ·rintro (⟨i,i1,i2⟩ | ⟨i,i1,i2⟩)
   ·exact ⟨i,by omega,by rw [if_pos i1];exact i2⟩
   ·exact ⟨k+i,by omega,by rw [if_neg (by omega),Nat.add_sub_cancel_left];exact i2⟩
 rw [rowsF_nodup] at o5 hnd
 have m2:=m1.takeX hd1 us hnu (fun b=>b ∈ rowsF (fun i=>if i<k then Fs i else Gs (i - k)) (k+m)) (fun b hb=>by
  rcases hmem.1 hb with hb | hb
  ·exact .inl (by simp only [upd_self];exact (o6 b).2 hb)
  ·obtain ⟨q,q1,q2,q3⟩:=hG b hb
   have hne:q≠n:=fun e=>hnu (e ▸ q1)
   refine .inr ⟨q,q1,by rw [upd_ne _ _ hne];exact Box.sub_live.2 q2,?_⟩
   simp only [Mi.O,upd_ne _ _ hne];exact q3) (.fam e sz (k+m) fun i=>if i<k then f i else g (i - k)) (by
  refine ⟨xs ++ news,fun i=>if i<k then Fs i else Gs (i - k),by simpa [upd_self] using hown,by simp [upd_self],fun i hi=>?_,one,?_,fun b=>by simp only [upd_self],fun b hb=>by simp only [upd_self];exact hv'X b (hmem.1 hb)⟩
  ·rw [cut i hi];by_cases hik:i<k
   ·simp only [hik,if_true]
    exact tr _ _ _ _ rfl rfl (o3 i hik) fun b hb=>hX b ((o6 b).2 (rowsF_in hik hb))
   ·simp only [hik,if_false]
    exact tr _ _ _ _ rfl rfl (hel (i - k) (by omega)) fun b hb=>hX2 b (rowsF_in (show i - k<m by omega) hb)
  ·rw [rowsF_nodup];refine ⟨fun i hi=>?_,fun i j b hi hj hbi hbj=>?_⟩
   ·split
    ·exact o5.1 i (by assumption)
    ·exact hnd.1 (i - k) (by omega)
   ·split at hbi<;>split at hbj
    ·exact o5.2 i j b (by assumption) (by assumption) hbi hbj
    ·exact absurd (rowsF_in (by assumption) hbi) (hGn b (rowsF_in (show j - k<m by omega) hbj)).2.1
    ·exact absurd (rowsF_in (by assumption) hbj) (hGn b (rowsF_in (show i - k<m by omega) hbi)).2.1
    ·have:=hnd.2 (i - k) (j - k) b (by omega) (by omega) hbi hbj
     omega) (fun _ h=>by cases h)
 rw [upd_killN] at m2;refine ⟨{ M with ρ:=upd M.ρ n v'.ownBlock,hv:=upd M.hv n v',h:=w'.heap,X:=upd (upd M.X n (M.X n)) n fun b=>b ∈ rowsF (fun i=>if i<k then Fs i else Gs (i - k)) (k+m) },⟨rfl,R.nx,m2,fun t=>(Rd.sub hle (fun im _=>by simp [Rd]) _ _ _ (R.env t)).setX _ _ _ _,R.sz,R.defs,ho.trans R.os,htp.trans R.tape,hout.trans R.output⟩,?_⟩;obtain ⟨ad',cap',he,_⟩:=ownsH_len hown;simp only [Rd,upd_self];exact ⟨trivial,hn,trivial,ad',k+m,cap',he⟩
def famSrc (sto:Nat->Box) (x:D) (yes:Nat->Nat->Nat->Nat->(Nat->List D)->Prop) (no:Prop):Prop :=
 match x with
 | .own q=>match sto q with
   | .fam e sz m g=>yes q e sz m g| _=>no
 | _=>no
def famApp (Γ:Ty) (st:St) (t n:Nat) (x:D) (K:D->St->Prop) (no:Prop):Prop :=
 match st.sto n with
 | .fam e' sz k f=>match (Γ.get t).k with
   | .slice e=>match Nat.ble 1 (Γ.get e).bytes with
     | true=>famSrc st.sto x (fun q _ sz' m g=>match szB Γ e sz,Nat.beq sz sz',Nat.beq e e',Nat.beq n q with
      | true,true,true,false=>Vc ((k+m)*(Γ.get e).bytes<=140737488355328)
        (st.on fun e_ s_ k_=>K (.own n) ⟨fun t=>D.sub n .any (e_ t),upd (killN (fun j=>(s_ j).sub n .any) [q]) n (.fam e' sz (k+m) fun i=>if i<k then f i else g (i - k)),k_⟩)
      | _,_,_,_=>False)
       (srcD st.sto (nilTab sz x) fun sz' m g=>match szB Γ e sz,Nat.beq sz sz',Nat.beq e e' with
         | true,true,true=>Vc ((k+m)*(Γ.get e).bytes<=140737488355328)
           (st.on fun e_ s_ k_=>K (.own n) ⟨fun t=>D.sub n .any (e_ t),upd (killN (fun j=>(s_ j).sub n .any) []) n (.fam e' sz (k+m) fun i=>if i<k then f i else g (i - k)),k_⟩)
         | _,_,_=>False)
     | false=>False
   | _=>False
 | _=>no
theorem famApp_ok (H:TyOK P Γ) (R:RelM c nt M st a w) {t ty n:Nat} {x:D} {v y:Value} {K:D->St->Prop} {no:Prop} (h:famApp Γ st t n x K no) (hv:Rd M false (.own n) v) (hx:Rd M false x y) :
 no\/∃ d st' v' M' w',K d st'/\RelM c nt M' st' a w'/\Rd M' false d v'/\(Builtin.append_ #[t,t] ty #[v,y]).run P w = .ok v' w':=by
 unfold famApp at h;split at h
 case h_2=>exact .inl h
 rename_i e' sz k f hsto
 right
 split at h
 case h_2=>exact h.elim
 rename_i e hk;obtain ⟨i0,d0,z0,hi0,hu0,_,_,_,_,_,hkc0⟩:=H.ok hk (by simp)
 cases d0<;>simp only [kchk,bft] at hkc0
 have hkc0:=by simpa using hkc0
 subst hkc0;split at h
 case h_2=>exact h.elim
 rename_i hby;have hby:=Nat.le_of_ble_eq_true hby
 have elem:∀ sz,szB Γ e sz=true->∃ ie ze,P.info? e=some ie/\ie.size=sz/\ie.bytes=(Γ.get e).bytes/\ie.zero=some ze/\ze.cells.size=sz/\0<sz:=fun sz hsz=>by
  obtain ⟨h1,h2,_⟩:=szB_of H hsz
  rcases H e with hbad | hok
  ·omega
  ·obtain ⟨ie,de,ze,hie,_,hse,hbe,hze,hzc,_,_⟩:=hok.ex;exact ⟨ie,ze,hie,by omega,hbe,hze,by omega,by omega⟩
 simp only [Rd] at hv;obtain ⟨_,hn,rfl,_⟩:=hv
 have hd:st.sto n≠.dead:=by rw [hsto];simp
 have hbx:=R.mem.box n hn;rw [hsto] at hbx;obtain ⟨xs,Fs,o1,o2,_⟩:=hbx;rw [R.h] at o1
 have same:∀ {e sz k:Nat} {v:Value} {xs ys:List Value},OwnsH w.heap e sz v k xs->OwnsH w.heap e sz v k ys->xs=ys:=fun {e sz k v xs ys} h1 h2=>by
  rcases h1.2 with ⟨a1,a2⟩ | ⟨g,cap,cur,a1,a2,_,_,_,a6⟩
  ·have l1:=h1.1;have l2:=h2.1;subst a2;rw [Nat.zero_mul] at l1 l2;rw [List.eq_nil_of_length_eq_zero l1,List.eq_nil_of_length_eq_zero l2]
  ·rcases h2.2 with ⟨b1,b2⟩ | ⟨g',cap',cur',b1,b2,_,_,_,b6⟩
   ·rw [a1] at b1;cases b1
   ·rw [a1] at b1;cases b1;rw [a2] at b2;cases b2;rw [<-a6,<-b6]
 unfold famSrc at h
 have plain:(srcD st.sto (nilTab sz x) fun sz' m g=>match szB Γ e sz,Nat.beq sz sz',Nat.beq e e' with
  | true,true,true=>Vc ((k+m)*(Γ.get e).bytes<=140737488355328)
    (st.on fun e_ s_ k_=>K (.own n) ⟨fun t=>D.sub n .any (e_ t),upd (killN (fun j=>(s_ j).sub n .any) []) n (.fam e' sz (k+m) fun i=>if i<k then f i else g (i - k)),k_⟩)
  | _,_,_=>False)->∃ d st' v' M' w',K d st'/\RelM c nt M' st' a w'/\Rd M' false d v'/\(Builtin.append_ #[t,t] ty #[M.hv n,y]).run P w = .ok v' w':=fun h=>by
  obtain ⟨sz',m,g,news,h,hsrc⟩:=srcD_of R.mem h (nilTab_rd hx);split at h
  case h_2=>exact h.elim
  rename_i hsz he1 he2;have he1:=nbq he1;have he2:=nbq he2;subst he1 he2;obtain ⟨hb,h⟩:=h;obtain ⟨ie,ze,hie,hs1,hb1,hz1,hz2,hpos⟩:=elem sz hsz;subst hs1;obtain ⟨ad,cap,rfl,hm,hnw⟩:=hsrc.ex
  obtain ⟨v',w',hrun,hown,ho,htp,hout,hge,hold,hblk⟩:=run_append (P:=P) (w:=w) t ty e ie ze hu0 hie hz1 hz2 (by omega) (M.hv n) k xs o1 ad m cap hm news hsrc.len
   (fun b hb=>hnw b hb w R.keep) hsrc.one (by rw [hb1];exact hb)
  obtain ⟨M',R',hr⟩:=fam_grown R hsto (g:=g) [] (by simp) (fun _=>[]) (fun ys hy=>by rw [same hy o1];exact hown) hsrc.len (fun i hi=>OdL.of_rd _ _ (hsrc.el i hi)) hsrc.one (by rw [rowsF_nil];exact List.nodup_nil) (fun b hb=>by rw [rowsF_nil] at hb;cases hb) ho htp hout hge hold hblk;exact ⟨_,_,v',M',w',h,R',hr,hrun⟩
 split at h
 case h_2=>exact plain h
 rename_i q;split at h
 case h_2=>exact plain h
 rename_i e2 sz2 m g hq;split at h
 case h_2=>exact h.elim
 rename_i hsz he1 he2 hne;have he1:=nbq he1;have he2:=nbq he2;have hne:=Nat.ne_of_beq_eq_false hne;subst he1 he2;obtain ⟨hb,h⟩:=h;obtain ⟨ie,ze,hie,hs1,hb1,hz1,hz2,hpos⟩:=elem sz hsz;subst hs1;simp only [Rd] at hx;obtain ⟨_,hqn,rfl,_⟩:=hx
 have hqd:st.sto q≠.dead:=by rw [hq];simp
 have hbq:=R.mem.box q hqn;rw [hq] at hbq;obtain ⟨ys,Gs,q1,q2,q3,q4,q5,q6,q7⟩:=hbq;have hyl:=q1.1
 obtain ⟨ad,cap,hqv,hm,hnw⟩:∃ ad cap,M.hv q = .slice ad m cap/\(ad=none->m=0)/\∀ b,ad=some b->∀ (j:Nat) (u:Value),ys[j]? = some u->w.cell? (b.add j)=some u:=by
  have hc:=fun b hb=>q1.cells (b:=b) hb
  rcases q1.2 with ⟨hnil,hn0⟩ | ⟨g',cap,cur,hg,hblk,hnc,hcm,hcs,ht⟩
  ·exact ⟨none,0,by rw [hnil,hn0],fun _=>hn0,nofun⟩
  ·refine ⟨_,cap,hg,nofun,fun b hb j u hj=>?_⟩;cases hb;have:=hc g' (by rw [hg];rfl) j (List.getElem?_eq_some_iff.1 hj).1;rw [Addr.add_lit,Nat.zero_add]
   show cellAt w.heap g' j=_
   rw [<-R.h,this,hj]
 rw [hqv];obtain ⟨v',w',hrun,hown,ho,htp,hout,hge,hold,hblk⟩:=run_append (P:=P) (w:=w) t ty e ie ze hu0 hie hz1 hz2 (by omega) (M.hv n) k xs o1 ad m cap hm ys hyl hnw q4 (by rw [hb1];exact hb);obtain ⟨M',R',hr⟩:=fam_grown R hsto (g:=g) [q] (by simpa using hne) Gs (fun ys hy=>by rw [same hy o1];exact hown) hyl q3 q4 q5 (fun b hb=>⟨q,by simp,hqd,.inr ((q6 b).2 hb)⟩) ho htp hout hge hold hblk;exact ⟨_,_,v',M',w',h,R',hr,hrun⟩
def famAny (s:Nat->Box):Nat->Bool
 | 0=>false
 | n+1=>match s n with
   | .fam ..=>true| _=>famAny s n
def famLit (Γ:Ty) (st:St) (t n:Nat) (ps:List D) (K:D->St->Prop) (no:Prop):Prop :=
 match ps with
 | [.own a]=>match famAny st.sto st.nxt with
   | true=>match st.sto a with
     | .arr e2 s2 m g=>match (Γ.get t).k with
       | .slice e=>match szB Γ e 1,Nat.beq n 1 with
         | true,true=>st.on fun e_ s_ k_=>K (.own k_) ⟨e_,upd (killN s_ [a]) k_ (.fam e 1 1 fun _=>[.ftab e2 s2 m g]),k_+1⟩
         | _,_=>False
       | _=>False
     | _=>no
   | false=>no
 | _=>no
theorem famLit_ok (H:TyOK P Γ) (R:RelM c nt M st a w) {t n:Nat} {ds:List D} {vs:List Value} {K:D->St->Prop} {no:Prop} (h:famLit Γ st t n ds K no) (hv:RdT M false ds vs) (parts:Array (Nat × Value)) (hp:parts.toList=(vs.zipIdx 0).map fun x=>(x.2,x.1)) :
 no\/∃ d st' v M' w',K d st'/\RelM c nt M' st' a w'/\Rd M' false d v/\(Instr.buildSlice t n parts).run P w = .ok v w':=by
 unfold famLit at h;split at h
 case h_2=>exact .inl h
 rename_i q;split at h
 case h_2=>exact .inl h
 split at h
 case h_2=>exact .inl h
 rename_i e2 s2 m g hq
 right
 split at h
 case h_2=>exact h.elim
 rename_i e hk;split at h
 case h_2=>exact h.elim
 rename_i hsz hn1;have hn1:=nbq hn1;subst hn1
 obtain ⟨v,rfl⟩:∃ v,vs = [v]:=by
  match vs,hv with
  | [v],_=>exact ⟨v,rfl⟩| [],h=>simp [RdT] at h| _ :: _ :: _,h=>simp [RdT] at h
 simp only [RdT,and_true] at hv;simp only [Rd] at hv;obtain ⟨_,hqn,rfl,_⟩:=hv
 have hqd:st.sto q≠.dead:=by rw [hq];simp
 have hbq:=R.mem.box q hqn;rw [hq] at hbq;obtain ⟨ys,q1,q2,q3,q4⟩:=hbq;obtain ⟨ad,cap,hqv,_⟩:=ownsH_len q1
 have hc1:(M.hv q).cells = #[M.hv q]/\(M.hv q).oneCell' = true:=by rw [hqv];exact ⟨rfl,rfl⟩
 obtain ⟨i0,d0,z0,hi0,hu0,_,_,_,_,_,hkc0⟩:=H.ok hk (by simp)
 cases d0<;>simp only [kchk,bft] at hkc0
 have hkc0:=by simpa using hkc0
 subst hkc0;obtain ⟨hs1,hne,_⟩:=szB_of H hsz
 have hpp:parts = #[(0,M.hv q)]:=by
  apply Array.ext';rw [hp];rfl
 subst hpp
 have hrun:(Instr.buildSlice t 1 #[(0,M.hv q)]).run P w = .ok (.slice (some ⟨w.heap.size,0,none⟩) 1 1) (w.alloc (.cells #[M.hv q] e)):=by
  rcases H e with hbad | hok
  ·exact absurd hbad.2 (by omega)
  ·obtain ⟨ie,de,ze,hie,_,hse,hbe,hze,hzc,_,_⟩:=hok.ex
   have hz:(zeroValue e).run P w = .ok ze w:=by simp [zeroValue,typeInfo,hie,hze]
   have h1:ie.size=1:=by omega
   obtain ⟨cells,hfill,hcl⟩:=fill_seq 1 [M.hv q] 0 (if 1*1=0 then #[] else ((Array.range (1*1)).map (ze.cells[· % ze.cells.size]!))) (by simp) (by simp [hc1.1]);simp only [Nat.zero_mul,List.take_zero,List.nil_append] at hcl
   have hcells:cells = #[M.hv q]:=by
    apply Array.ext';rw [hcl];simp [hc1.1]
   subst hcells;simp only [Instr.buildSlice,Sem.run_bind,run_underlying hu0,Result.andThen_ok,run_sizeOf hie,h1];simp only [Nat.mul_one] at hfill ⊢;rw [if_neg (by decide)]
   have hfill' : Instr.fill (fun i=>some (i,1)) ((Array.range 1).map (ze.cells[· % ze.cells.size]!)) [(0,M.hv q)]=some #[M.hv q]:=by
    simpa using hfill
   simp [hz,hfill',newRow]
 obtain ⟨M1,R1,hr1,hle1⟩:=R.arr (cs:=#[M.hv q]) (e:=e) (sz:=1) (k:=1) (cap:=1) (f:=fun _=>[.val (M.hv q)]) (Nat.le_refl _) (by decide) rfl (fun i hi=>by
  obtain rfl:i=0:=by omega
  simp [RdL,Rd,hc1.2]) (fun u hu=>by simp at hu;rw [hu];exact hc1.2) (w':=w.alloc (.cells #[M.hv q] e)) rfl rfl rfl rfl
 have hnx:st.nxt=M.nx:=R.nx.symm
 have hkd:upd st.sto st.nxt (.arr e 1 1 fun _=>[.val (M.hv q)]) st.nxt≠.dead:=by rw [upd_self];simp
 have hqk:q≠st.nxt:=by rw [hnx];exact Nat.ne_of_lt hqn
 have hk1:st.nxt<M1.nx:=R1.mem.lt hkd;have hbk:=R1.mem.box st.nxt hk1;dsimp only at hbk;rw [upd_self] at hbk;obtain ⟨zs,z1,z2,z3,z4⟩:=hbk
 have hqd1:upd st.sto st.nxt (.arr e 1 1 fun _=>[.val (M.hv q)]) q≠.dead:=by rw [upd_ne _ _ hqk];exact hqd
 have hbq1:=R1.mem.box q (R1.mem.lt hqd1)
 have hbq2:BoxOK M1 q (.arr e2 s2 m g):=by
  have:upd st.sto st.nxt (.arr e 1 1 fun _=>[.val (M.hv q)]) q = .arr e2 s2 m g:=by rw [upd_ne _ _ hqk];exact hq
  rw [<-this];exact hbq1
 obtain ⟨ys1,p1,p2,p3,p4⟩:=hbq2;have hhv:M1.hv q=M.hv q:=hle1.hv rfl q hqn
 have hzs:zs = [M.hv q]:=by
  have hl:=z1.1
  match zs,hl,z3 0 (by omega) with
  | [z],_,h=>simp only [Nat.zero_mul,List.drop_zero,RdL,Rd] at h;simp [RdL,Rd] at h;rw [h.2]
 have m2:=R1.mem.takeX (n:=st.nxt) hkd [q] (by simpa using hqk.symm) (fun b=>b ∈ rowsF (fun _=>(M.hv q).ownBlock.toList) 1) (fun b hb=>by
  simp [rowsF] at hb
  exact .inr ⟨q,by simp,hqd1,.inl (by rw [p2,hhv];exact hb)⟩) (.fam e 1 1 fun _=>[.ftab e2 s2 m g]) (by
  refine ⟨zs,fun _=>(M.hv q).ownBlock.toList,z1,z2,fun i hi=>?_,z4,?_,fun b=>by simp only [upd_self],fun b hb=>?_⟩
  ·obtain rfl:i=0:=by omega
   rw [hzs];simp only [Nat.zero_mul,List.drop_zero,List.take_succ_cons,List.take_zero,OdL];refine ⟨hc1.2,(M.hv q).ownBlock.toList,[],by simp,?_,rfl⟩;simp only [Od];exact ⟨⟨ys1,by rw [<-hhv];exact p1,fun j hj=>RdL.mono (M1.leX _) _ _ (p3 j hj),p4⟩,trivial⟩
  ·rw [rowsF_nodup];exact ⟨fun _ _=>by cases (M.hv q).ownBlock<;>simp,fun i j b hi hj _ _=>by omega⟩
  ·simp [rowsF] at hb;intro he
   exact hqk (R1.mem.injO q st.nxt b hqd1 hkd (.inl (by rw [p2,hhv];exact hb)) (.inl (by rw [z2];exact he)))) (fun _ h=>by cases h)
 have hst:upd (killN (upd st.sto st.nxt (.arr e 1 1 fun _=>[.val (M.hv q)])) [q]) st.nxt (.fam e 1 1 fun _=>[.ftab e2 s2 m g])=upd (killN st.sto [q]) st.nxt (.fam e 1 1 fun _=>[.ftab e2 s2 m g]):=upd_killN _ _ _ _ _;rw [hst] at m2;exact ⟨_,_,_,{ M1 with X:=upd M1.X st.nxt fun b=>b ∈ rowsF (fun _=>(M.hv q).ownBlock.toList) 1 },_,h,⟨R1.h,R1.nx,m2,fun u=>(R1.env u).setX _ _ _ _,R1.sz,R1.defs,R1.os,R1.tape,R1.output⟩,hr1.setX _ _ _ _,hrun⟩
def famShr (Γ:Ty) (st:St) (t m:Nat) (h:D) (K:D->St->Prop) (no:Prop):Prop :=
 match st.sto m with
 | .fam e' sz k f=>match (Γ.get t).k with
   | .slice e=>match szB Γ e sz,h with
     | true,.int _ n=>Vc (0<=n/\n<=k) (st.on fun e_ s_ k_=>K (.own m) ⟨fun t=>D.sub m .any (e_ t),upd (fun j=>(s_ j).sub m .any) m (.fam e' sz n.toNat f),k_⟩)| _,_=>False
   | _=>False
 | _=>no
theorem rowsF_sub {Fs:Nat->List Nat} {n k b:Nat} (h:n<=k) (hb:b ∈ rowsF Fs n):b ∈ rowsF Fs k:=by
 obtain ⟨i,h1,h2⟩:=rowsF_of hb;exact rowsF_in (by omega) h2
theorem famShr_ok (H:TyOK P Γ) (R:RelM c nt M st a w) {t m:Nat} {h:D} {v y:Value} {K:D->St->Prop} {no:Prop} (hk:famShr Γ st t m h K no) (hv:Rd M false (.own m) v) (hy:Rd M false h y) :
 no\/∃ d st' v' M',K d st'/\RelM c nt M' st' a w/\Rd M' false d v'/\(Instr.sliceAt t v none (some y) none).run P w = .ok v' w:=by
 unfold famShr at hk;split at hk
 case h_2=>exact .inl hk
 rename_i e' sz k f hs
 right
 split at hk
 case h_2=>exact hk.elim
 rename_i e hkk;obtain ⟨i0,d0,z0,hi0,hu0,_,_,_,_,_,hkc0⟩:=H.ok hkk (by simp)
 cases d0<;>simp only [kchk,bft] at hkc0
 have hkc0:=by simpa using hkc0
 subst hkc0;split at hk
 case h_2=>exact hk.elim
 rename_i kk n hsz;obtain ⟨_,hsz0,j,hj,hjs⟩:=szB_of H hsz;obtain ⟨⟨h0,h1⟩,hK⟩:=hk;simp only [Rd] at hv hy;subst hy;obtain ⟨_,hm,rfl,_⟩:=hv
 have hd:st.sto m≠.dead:=by rw [hs];simp
 have hbx:=R.mem.box m hm;rw [hs] at hbx;obtain ⟨xs,Fs,o1,o2,o3,o4,o5,o6,o7⟩:=hbx
 have hn:n.toNat<=k:=by omega
 have hle:n.toNat*sz<=k*sz:=Nat.mul_le_mul_right _ hn
 obtain ⟨v',hrun,hob,hown⟩:∃ v',(Instr.sliceAt t (M.hv m) none (some (.int kk n)) none).run P w = .ok v' w/\v'.ownBlock=(M.hv m).ownBlock/\OwnsH M.h e' sz v' n.toNat (xs.take (n.toNat*sz)):=by
  rcases o1.2 with ⟨hnil,hn0⟩ | ⟨g,cap,cur,hg,hblk,hnc,hcm,hcs,ht⟩
  ·have hn0' : n=0:=by omega
   subst hn0' hn0;have hb:=run_bounds (P:=P) (isS:=true) (len:=0) (cap:=0) (lo:=none) (hi:=some (.int kk 0)) (xl:=none) (xh:=some (.int kk 0)) (l:=0) (h:=0) (.inl ⟨rfl,rfl,rfl⟩) (.inr ⟨kk,rfl,rfl⟩) (by omega) (by omega) (by omega) (by omega) w;refine ⟨.slice none 0 0,?_,by rw [hnil],by simp,.inl ⟨rfl,rfl⟩⟩;rw [hnil];simp only [Instr.sliceAt,Sem.run_bind,run_underlying hu0,Result.andThen_ok,Instr.slice,hb,Sem.run_pure,run_sizeOf hj];simp
  ·have hb:=run_bounds (P:=P) (isS:=true) (len:=k) (cap:=cap) (lo:=none) (hi:=some (.int kk n)) (xl:=none) (xh:=some (.int kk n)) (l:=0) (h:=n) (.inl ⟨rfl,rfl,rfl⟩) (.inr ⟨kk,rfl,rfl⟩) (by omega) h0 h1 hnc w;refine ⟨.slice (some ⟨g,0,none⟩) n.toNat cap,?_,by rw [hg];rfl,?_,.inr ⟨g,cap,cur,rfl,hblk,by omega,hcm,hcs,?_⟩⟩
   ·rw [hg];simp only [Instr.sliceAt,Sem.run_bind,run_underlying hu0,Result.andThen_ok,Instr.slice,hb,Sem.run_pure,run_sizeOf hj]
    by_cases hc0:cap=0<;>simp [hc0,Addr.add_lit]
   ·rw [List.length_take,o1.1];omega
   ·rw [<-ht,List.take_take];congr 1;omega
 rw [rowsF_nodup] at o5
 obtain ⟨hm2,hle2⟩:=R.mem.rehomeX hd v'.ownBlock v' (fun b=>b ∈ rowsF Fs n.toNat) M.h (Nat.le_refl _) (fun _ _ _=>rfl) (fun b hb=>.inl (by
  rcases hb with hb | hb
  ·exact .inl (by rw [o2,<-hob];exact hb)
  ·exact .inr ((o6 b).2 (rowsF_sub hn hb)))) (.fam e' sz n.toNat f) nofun (by
  refine ⟨xs.take (n.toNat*sz),Fs,by simpa [upd_self] using hown,by simp [upd_self],fun i hi=>?_,fun u hu=>o4 u (List.mem_of_mem_take hu),?_,fun b=>by simp only [upd_self],fun b hb=>by simp only [upd_self];rw [hob];exact o7 b (rowsF_sub hn hb)⟩
  ·have hi' : i*sz+sz<=n.toNat*sz:=by rw [<-Nat.succ_mul];exact Nat.mul_le_mul_right _ hi
   have e0:((xs.take (n.toNat*sz)).drop (i*sz)).take sz=(xs.drop (i*sz)).take sz:=by
    rw [List.drop_take,List.take_take];congr 1;omega
   rw [e0]
   exact OdL.mono (M:=M) (M':={ M with ρ:=upd M.ρ m v'.ownBlock,hv:=upd M.hv m v',h:=M.h,X:=upd M.X m fun b=>b ∈ rowsF Fs n.toNat }) (fun _ h=>h) (fun _ _=>rfl) _ _ _ (o3 i (by omega)) fun _ _=>rfl
  ·rw [rowsF_nodup]
   exact ⟨fun i hi=>o5.1 i (by omega),fun i j b hi hj=>o5.2 i j b (by omega) (by omega)⟩)
 refine ⟨_,_,v',{ M with ρ:=upd M.ρ m v'.ownBlock,hv:=upd M.hv m v',h:=M.h,X:=upd M.X m fun b=>b ∈ rowsF Fs n.toNat },hK,⟨R.h,R.nx,hm2,fun t=>Rd.sub hle2 (fun im _=>by simp [Rd]) _ _ _ (R.env t),R.sz,R.defs,R.os,R.tape,R.output⟩,?_,hrun⟩;obtain ⟨ad',cap',he,_⟩:=ownsH_len hown;simp only [Rd,upd_self];exact ⟨trivial,hm,trivial,ad',_,cap',he⟩
end
end Sx
