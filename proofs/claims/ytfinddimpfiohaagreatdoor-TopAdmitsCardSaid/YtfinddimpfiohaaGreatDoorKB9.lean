/-
  What an attacker learns of a column, without a dictionary.
-/
import Derived.Test.YtfinddimpfiohaaGreatDoorKB8
set_option linter.unusedSimpArgs false
set_option linter.unusedVariables false
set_option maxRecDepth 4000
open Go Sx Go.Proofs
namespace Kx
def Γ2:Ty:=(215,⟨.map 3 9,1,8,.any⟩) :: Γ
theorem hΓ2:TyOK Tryz.prog Γ2:=tyOK (by decide +kernel)
theorem align_ct (L:List Gp) (hl:L.length<=64):Cr 66 [gps L,.nil] (.tup [.nil,i64 0]):=by
 have hΓ:=hΓ2;have hsz:=sizes_ct L hl;have hln:=szs_len L L.length;refine .det (.of_W (fn:=Tryz.f66) hΓ hm Tryz.func66 [] [] (by kernel_rfl) (Step.out ?_));repeat' first|apply S0;conv=>whnf|refine B1 ?_|refine Br.bnot ?_|refine K0 ?_|(refine M0 (g:=111) (dcheck_ct) ?_)
 refine CodeOK.loopW hΓ hm [] [] (by kernel_rfl) (α:=Unit) (fun i=>[(0,gps L),(1,.nil),(7,.nil),(27,.nil),(28,i64 0),(29,i64 0)]) (fun i=>[]) 0 (fun i=>True) (fun i=>0) ?_ ?_
 ·refine Again.by () trivial ?_;repeat' first|apply S0;conv=>whnf|refine Vo ?_|exact T0
 ·intro _ _;repeat' first|apply S0;conv=>whnf|refine B0 ?_
  refine CodeOK.loopW hΓ hm [] [] (by kernel_rfl) (α:=Unit) (fun i=>[(0,gps L),(7,.nil),(10,.mref 0),(40,.nil),(41,i64 0),(42,i64 0)]) (fun i=>[(0,.mp ⟨false,false,[]⟩)]) 1 (fun i=>True) (fun i=>0) ?_ ?_
  ·refine Again.by () trivial ?_;repeat' first|apply S0;conv=>whnf|refine Vo ?_|exact T0|(rfl)|refine Vm ?_ ?_
  ·intro _ _;repeat' first|apply S0;conv=>whnf|refine B0 ?_|(refine M0 hsz ?_)|refine K0 ?_
   refine CodeOK.loopW hΓ hm [] [] (by kernel_rfl) (α:=Nat) (fun i=>[(10,.mref 0),(15,.nil),(16,ints (szs L L.length)),(62,i64 L.length),(63,i64 i)]) (fun i=>[(0,.mp ⟨false,false,[]⟩)]) 1 (fun i=>i<=L.length) (fun i=>L.length - i) ?_ ?_
   ·refine Again.by 0 (zle _) ?_;repeat' first|apply S0;conv=>whnf|refine Vo ?_|exact T0
   ·intro i hi
    have hr:=fun h:(i:Int)<L.length=>rank_ct (szs L L.length) i (by omega) (by omega)
    repeat' first|apply S0;conv=>whnf|exact T0|refine W6 ?_|(refine M0 (hr (by omega)) ?_)|(refine Br.d (fun h=>?_) fun h=>?_)|refine T2 ?_ ?_|refine K0 ?_
    all_goals
     refine Again.by (i+1) ⟨by omega,by omega⟩ ?_;repeat' first|apply S0;conv=>whnf|refine Vo ?_|exact T0
theorem hits_ct (L:List Gp) (V:List Str):Cr 67 [gps L,.nil,strs V] (.tup [i64 0,i64 0]):=by
 refine .det (De Tryz.func67 ord67 [] ?_);repeat' first|apply S0;conv=>whnf
 refine Lw ord67 [] (α:=Unit) (fun i=>[(0,gps L),(2,strs V),(8,i64 0),(13,.nil),(14,i64 0),(15,i64 0)]) (fun i=>[]) 0 (fun i=>True) (fun i=>0) ?_ ?_
 ·refine Again.by () trivial ?_;repeat' first|apply S0;conv=>whnf|refine Vo ?_|exact T0
 ·intro _ _;repeat' first|apply S0;conv=>whnf|exact T0|refine B0 ?_|refine T2 ?_ ?_
def bssO (l:List Bs):D:=.ftab 117 2 l.length fun i=>(l.getD i Bs.z).l
theorem cloneB_ct (l:List Bs) (h0:l.length<=1000000):Cr 115 [bss l] (bssO l):=by
 refine .det (De Tryz.func115 [] [] ?_);repeat' first|apply S0;conv=>whnf|refine Vb ?_|(refine NilB.mk fun b hb=>Step.out ?_)|exact T0|(refine Bm (fun h=>?_) fun h=>?_)|refine T2 ?_ ?_
 all_goals first
  | trivial
  | exact hb h
  | with_reducible rfl
  | with_reducible exact same_rfl
  | omega
  | (exact ⟨by omega,fun i hi=>by simp [iteL,selC,Bs.l]⟩)
theorem alcl_ct (b:Bs) (hb:b.okM):Cr 116 [.agg b.l] (.bool (!vd b)):=by
 rcases hb with hb | hb
 ·have hv:=bvalid_ct b hb;rw [vd_ok hb];refine .det (De Tryz.func116 [] [] ?_);repeat' first|apply S0;conv=>whnf|exact T0|(refine M0 hv ?_)|refine T2 ?_ ?_|refine K0 ?_
 ·have hv:=bvalidZ_ct hb;rw [show vd b=false by rw [hb];rfl];refine .det (De Tryz.func116 [] [] ?_);repeat' first|apply S0;conv=>whnf|exact T0|(refine M0 hv ?_)|refine T2 ?_ ?_|refine K0 ?_
def ixM:List Bs->Nat->Int
 | [],_=>-1
 | b :: l,i=>if vd b then ixM l (i+1) else i
theorem ixM_all:∀ (l:List Bs) (i:Nat),ixM l i = -1->l.filter vd=l
 | [],_,_=>rfl
 | b :: l,i,h=>by
   rw [ixM] at h;split at h
   ·rename_i hb;rw [List.filter_cons_of_pos hb,ixM_all l _ h]
   ·omega
theorem ixM_some:∀ (l:List Bs) (i:Nat),ixM l i≠-1->∃ k,ixM l i=((i+k:Nat):Int)/\k<l.length/\(l.take (k+1)).filter vd=l.take k
 | [],_,h=>absurd rfl h
 | b :: l,i,h=>by
   rw [ixM] at h ⊢;split
   ·rename_i hb;rw [if_pos hb] at h;obtain ⟨k,h1,h2,h3⟩:=ixM_some l _ h;refine ⟨k+1,by rw [h1];congr 1;omega,by simp;omega,?_⟩;rw [List.take_succ_cons,List.filter_cons_of_pos hb,h3,List.take_succ_cons]
   ·rename_i hb;refine ⟨0,rfl,by simp,?_⟩;simp [hb]
theorem idxM_ct (l:List Bs) (hl:l.length<=1000) (hok:∀ b ∈ l,b.okM):Cr 173 [bss l,.fn 116 []] (i64 (ixM l 0)):=by
 refine .det (De Tryz.func173 [] [] ?_);repeat' first|apply S0;conv=>whnf
 refine Lw [] [] (α:=Nat) (fun i=>[(0,bss l),(1,.fn 116 []),(7,i64 l.length),(8,i64 i)]) (fun i=>[]) 0 (fun i=>i<=l.length/\ixM l 0=ixM (l.drop i) i) (fun i=>l.length - i) ?_ ?_
 ·refine Again.by 0 ⟨zle _,rfl⟩ ?_;repeat' first|apply S0;conv=>whnf|refine Vo ?_|exact T0|refine Cho.l ?_|(refine Vc.mk ⟨rfl,rfl⟩ (Step.out ?_))
 ·intro i ⟨hi,he⟩;dsimp only at hi he ⊢
  have hc:=fun h:(i:Int)<l.length=>alcl_ct (l.getD (i:Int).toNat Bs.z) (hok _ (getD_in (by omega)))
  by_cases hlt:i<l.length
  ·have hcj:=hc (by omega)
   have he2:ixM (l.drop i) i=if vd (l.getD (i:Int).toNat Bs.z) then ixM (l.drop (i+1)) (i+1) else i:=by rw [drop_step l Bs.z i hlt];rfl
   by_cases hv:vd (l.getD (i:Int).toNat Bs.z)=true
   ·rw [hv] at hcj;rw [if_pos hv] at he2;repeat' first|apply S0;conv=>whnf|refine Vo ?_|refine W6 ?_|with_reducible refine Br.tt ?_|refine B1 ?_|(refine M0 hcj ?_)|refine Br.bnot ?_|refine K0 ?_
    refine Again.by (i+1) ⟨⟨by omega,by rw [he,he2]⟩,by omega⟩ ?_;repeat' first|apply S0;conv=>whnf|refine Vo ?_|exact T0|refine Cho.l ?_|(refine Vc.mk ⟨rfl,rfl⟩ (Step.out ?_))
   ·rw [Bool.eq_false_iff.2 hv] at hcj;rw [if_neg hv] at he2;rw [he,he2];repeat' first|apply S0;conv=>whnf|refine Vo ?_|exact T0|with_reducible refine Br.ff ?_|refine B1 ?_|(refine M0 hcj ?_)|refine Br.bnot ?_|refine T2 ?_ ?_|refine K0 ?_
  ·rw [he,ddl (by omega)];repeat' first|apply S0;conv=>whnf|exact T0|refine B0 ?_|refine T2 ?_ ?_
   all_goals rfl
def kpB (l:List Bs) (j:Nat):List Bs:=(l.take j).filter vd
def midB (l:List Bs) (j:Nat):List Bs:=kpB l j ++ l.drop (kpB l j).length
theorem kpB_le (l:List Bs) (j:Nat):(kpB l j).length<=j:=Nat.le_trans (List.length_filter_le _ _) (by rw [List.length_take];omega)
theorem midB_hi (l:List Bs) (i j:Nat) (h:(kpB l i).length<=j):(midB l i).getD j Bs.z=l.getD j Bs.z:=by
 unfold midB;rw [gDe,List.getElem?_append_right h,List.getElem?_drop,gDe]
 congr 2;omega
theorem midB_lo (l:List Bs) (i j:Nat) (h:j<(kpB l i).length):(midB l i).getD j Bs.z=(kpB l i).getD j Bs.z:=by
 unfold midB;rw [gDe,List.getElem?_append_left h,gDe]
theorem kpB_new {l:List Bs} {j:Nat} (hj:j<l.length) (h:vd (l.getD j Bs.z)=true):kpB l (j+1)=kpB l j ++ [l.getD j Bs.z]:=by
 unfold kpB;rw [takeL_one l Bs.z j hj,List.filter_append,List.filter_cons_of_pos h];rfl
theorem kpB_drop {l:List Bs} {j:Nat} (hj:j<l.length) (h:¬vd (l.getD j Bs.z)=true):kpB l (j+1)=kpB l j:=by
 unfold kpB;rw [takeL_one l Bs.z j hj,List.filter_append,List.filter_cons_of_neg h,List.filter_nil,List.append_nil]
theorem bs_ite (c:Prop) [Decidable c] (a b:Bs):iteL c a.l b.l=(if c then a else b).l:=by
 show [i64 (if c then _ else _),D.ite c (u64s a.w) (u64s b.w)]=_
 rw [ite_u64s]
 split<;>rfl
theorem midB_set (l:List Bs) (j q:Nat) (hj:j<l.length) (hk:(kpB l j).length<=j) (h:vd (l.getD j Bs.z)=true):iteL (q=(kpB l j).length) (l.getD j Bs.z).l ((midB l j).getD q Bs.z).l=((midB l (j+1)).getD q Bs.z).l:=by
 rw [bs_ite]
 congr 1
 have hn:=kpB_new hj h
 have hl:(kpB l (j+1)).length=(kpB l j).length+1:=by rw [hn];simp
 split
 ·rename_i e;subst e;rw [midB_lo _ _ _ (by omega),hn,getD_last]
 ·rename_i e;by_cases h3:q<(kpB l j).length
  ·rw [midB_lo _ _ _ h3,midB_lo _ _ _ (by omega),hn,getD_ap1 _ _ _ _ h3]
  ·rw [midB_hi _ _ _ (by omega),midB_hi _ _ _ (by omega)]
theorem delO_ct (l:List Bs) (hl:l.length<=1000) (hok:∀ b ∈ l,b.okM):Cr 114 [bssO l,.fn 116 []] (bssO (l.filter vd)):=by
 have hi:=idxM_ct l hl hok;by_cases h0:ixM l 0 = -1
 ·rw [h0] at hi;rw [ixM_all l 0 h0];refine .det (.of_Wo (fn:=Tryz.f114) hΓ hm Tryz.func114 [] [] (by kernel_rfl) (Step.out ?_));repeat' first|apply S0;conv=>whnf|refine Vo ?_|exact T0|exact noSh_int _ _|exact T1|refine B1 ?_|(refine CallOK.of_ctR (g:=173) (Step.out ?_))|(refine M0 hi ?_)|(refine M0 (hi.arg ⟨rfl,(by assumption),⟨rfl,trivial⟩,trivial⟩) ?_)|(refine Br.d (fun h=>?_) fun h=>?_)|refine T2 ?_ ?_|(refine Cp.mk fun q hq=>Step.out ?_)|refine Vm ?_ ?_
 ·obtain ⟨k,h1,h2,h3⟩:=ixM_some l 0 h0;rw [h1,Nat.zero_add] at hi;have hkk:kpB l (k+1)=l.take k:=h3;refine .det (.of_Wo (fn:=Tryz.f114) hΓ hm Tryz.func114 [] [4] (by kernel_rfl) (Step.out ?_));repeat' first|apply S0;conv=>whnf|refine Vo ?_|exact T0|exact noSh_int _ _|refine B0 ?_|(refine CallOK.of_ctR (g:=173) (Step.out ?_))|(refine M0 hi ?_)|refine T2 ?_ ?_|(refine Cp.mk fun q hq=>Step.out ?_)|refine Vm ?_ ?_
  refine Cw [] [] (α:=Unit) (fun z=>[(0,.rsl 0 2 0 l.length q),(5,i64 (l.filter vd).length)]) (fun z=>[(0,.blk 117 2 q (l.filter vd).length fun i=>((l.filter vd).getD i Bs.z).l)]) 1 (fun z=>True) ?_ ?_
  ·repeat' first|apply S0;conv=>whnf|refine W6 ?_
   refine Lw [] [] (α:=Nat) (fun j=>[(0,.rsl 0 2 0 l.length q),(1,.fn 116 []),(5,i64 (kpB l j).length),(6,i64 j)]) (fun j=>[(0,.blk 117 2 q l.length fun i=>((midB l j).getD i Bs.z).l)]) 1 (fun j=>j<=l.length/\(kpB l j).length<j) (fun j=>l.length - j) ?_ ?_
   ·refine Again.by (k+1) ⟨by omega,by rw [hkk,List.length_take];omega⟩ ?_
    have hm:midB l (k+1)=l:=by unfold midB;rw [hkk,List.length_take,Nat.min_eq_left (by omega),List.take_append_drop]
    rw [hm,hkk,List.length_take,Nat.min_eq_left (by omega)];repeat' first|apply S0;conv=>whnf|refine Vo ?_|exact T0|(exact ⟨rfl,Nat.le_refl _,fun _ _=>rfl⟩)|refine Cho.l ?_|(refine Vc.mk ⟨rfl,rfl⟩ (Step.out ?_))|refine Vm ?_ ?_
   ·intro j ⟨hj,hkj⟩
    try dsimp only at hj hkj ⊢
    have hc:=fun h:(j:Int)<l.length=>alcl_ct (l.getD j Bs.z) (hok _ (getD_in (by omega)))
    have hmj:=midB_hi l j j (by omega);by_cases hlt:j<l.length
    ·by_cases hv:vd (l.getD j Bs.z)=true
     ·have hcj:Cr 116 [.agg ((midB l j).getD (0+(j:Int).toNat) Bs.z).l] (.bool (!true)):=by
       have:=hc (by omega);rw [hv] at this;rw [show 0+(j:Int).toNat=j by omega,hmj];exact this
      have hn:=kpB_new hlt hv
      have hln:(kpB l (j+1)).length=(kpB l j).length+1:=by rw [hn];simp
      have hst:=fun q=>midB_set l j q hlt (by omega) hv
      have hst2:∀ q,iteL (q=(kpB l j).length) ((midB l j).getD (0+(j:Int).toNat) Bs.z).l ((midB l j).getD q Bs.z).l=((midB l (j+1)).getD q Bs.z).l:=by
       rw [show 0+(j:Int).toNat=j by omega,hmj];exact hst
      repeat' first|apply S0;conv=>whnf|refine Vo ?_|refine W6 ?_|with_reducible refine Br.tt ?_|refine B1 ?_|(refine M0 hcj ?_)|refine Br.bnot ?_|refine K0 ?_
      refine Again.by (j+1) ⟨⟨by omega,by omega⟩,by omega⟩ ?_
      rw [hln];repeat' first|apply S0;conv=>whnf|refine Vo ?_|exact T0|refine Cho.l ?_|(refine Vc.mk ⟨rfl,rfl⟩ (Step.out ?_))|refine Vm ?_ ?_
      refine ⟨rfl,Nat.le_refl _,fun i _=>?_⟩;have e9:=hst2 i;rw [show (kpB l j).length=0+((kpB l j).length:Int).toNat by omega] at e9;exact e9
     ·have hcj:Cr 116 [.agg ((midB l j).getD (0+(j:Int).toNat) Bs.z).l] (.bool (!false)):=by
       have:=hc (by omega);rw [Bool.eq_false_iff.2 hv] at this;rw [show 0+(j:Int).toNat=j by omega,hmj];exact this
      have hn:=kpB_drop hlt hv
      have hmm:midB l (j+1)=midB l j:=by unfold midB;rw [hn]
      repeat' first|apply S0;conv=>whnf|refine Vo ?_|refine W6 ?_|with_reducible refine Br.ff ?_|refine B1 ?_|(refine M0 hcj ?_)|refine Br.bnot ?_|refine K0 ?_
      refine Again.by (j+1) ⟨⟨by omega,by rw [hn];omega⟩,by omega⟩ ?_
      rw [hn,hmm];repeat' first|apply S0;conv=>whnf|refine Vo ?_|exact T0|(exact ⟨rfl,Nat.le_refl _,fun q _=>rfl⟩)|refine Cho.l ?_|(refine Vc.mk ⟨rfl,rfl⟩ (Step.out ?_))|refine Vm ?_ ?_
    ·have e:l.filter vd=kpB l j:=by unfold kpB;rw [List.take_of_length_le (by omega)]
     have hlo:=midB_lo l j;have hle:=kpB_le l j;rw [e];repeat' first|apply S0;conv=>whnf|refine B0 ?_
     refine Again.by () trivial ?_;repeat' first|apply S0;conv=>whnf|refine Vo ?_|exact T0|(exact ⟨rfl,by omega,fun i hi=>by dsimp only;rw [hlo i hi]⟩)|refine Vm ?_ ?_
  ·intro _ _;have hp2:=List.length_filter_le vd l;repeat' first|apply S0;conv=>whnf|refine Vo ?_|exact T0|refine B1 ?_|(refine Br.d (fun h=>?_) fun h=>?_)|refine T2 ?_ ?_
   all_goals exact ⟨by simp,fun _ _=>rfl⟩
theorem delB_ct (l:List Bs) (hl:l.length<=1000) (hok:∀ b ∈ l,b.okM):Cr 114 [bssO l,.fn 116 []] (bss (l.filter vd)):=by
 refine Ct.res ((delO_ct l hl hok).mono ?_)
 rintro r outs ⟨rfl,rfl⟩
 exact ⟨_,_,⟨rfl,rfl⟩,⟨rfl,fun _ _=>rfl⟩,trivial⟩
def alwB:Bs->List Bs->Bs
 | a,[]=>a| a,b :: l=>alwB ⟨a.L,andW a.w b.w a.w.length⟩ l
def alwN:List Bs->Int
 | []=>0| a :: l=>cntS (alwB a l).w
theorem alwB_snoc (b:Bs):∀ (l:List Bs) (a:Bs),alwB a (l ++ [b])=⟨(alwB a l).L,andW (alwB a l).w b.w (alwB a l).w.length⟩
 | [],a=>rfl| c :: l,a=>alwB_snoc b l _
theorem alwB_ok:∀ (l:List Bs) (a:Bs),a.ok->(alwB a l).ok/\(alwB a l).L=a.L
 | [],a,h=>⟨h,rfl⟩| c :: l,a,h=>alwB_ok l ⟨a.L,andW a.w c.w a.w.length⟩ ⟨h.L,by simp only [andW,List.length_map,List.length_range];exact h.n⟩
theorem always_ct (l:List Bs) (hl:l.length<=12) (q:Int) (hok:∀ b ∈ l,(b.ok/\b.L=q)\/b=Bs.z):Cr 70 [bss l] (i64 (alwN (l.filter vd))):=by
 have hM:∀ b ∈ l,b.okM:=fun b hb=>(hok b hb).imp And.left id
 have hcl:=cloneB_ct l (by omega);have hd:=delB_ct l (by omega) hM;have hfl:(l.filter vd).length<=12:=Nat.le_trans (List.length_filter_le _ _) hl
 have hok:∀ b ∈ l.filter vd,b.ok/\b.L=q:=fun b hb=>by
  obtain ⟨h1,h2⟩:=List.mem_filter.1 hb
  rcases hok b h1 with h | h
  ·exact h
  ·rw [h] at h2;cases h2
 generalize l.filter vd=l' at *
 cases l' with
 | nil =>
   refine .det (De Tryz.func70 [] [] ?_);repeat' first|apply S0;conv=>whnf|refine Vo ?_|exact T0|(refine CallOK.gv (g:=114) (Step.out ?_))|(refine M0 hd ?_)|(refine Br.d (fun h=>?_) fun h=>?_)|refine T2 ?_ ?_|(refine CallOK.ctF (g:=115) (Step.out ?_))|(refine M0 (g:=115) (cloneB_ct _ (by omega)) ?_)
 | cons a r =>
   have ha:=hok a (by simp)
   have hr:=fun b (hb:b ∈ r)=>hok b (by simp [hb])
   have hrl:r.length<=11:=by simp at hfl;omega
   have hcl2:(a :: r).length=r.length+1:=rfl;refine .det (De Tryz.func70 [] [] ?_);repeat' first|apply S0;conv=>whnf|refine Vo ?_|refine B0 ?_|(refine CallOK.gv (g:=114) (Step.out ?_))|(refine M0 hd ?_)|(refine CallOK.ctF (g:=115) (Step.out ?_))|(refine M0 (g:=115) (cloneB_ct _ (by omega)) ?_)
   refine Lw [] [] (α:=Nat) (fun j=>[(4,.loc 0 0),(19,bss r),(20,i64 r.length),(21,i64 j)]) (fun j=>[(0,.var (alwB a (r.take j)).l)]) 1 (fun j=>j<=r.length) (fun j=>r.length - j) ?_ ?_
   ·refine Again.by 0 (zle _) ?_;repeat' first|apply S0;conv=>whnf|refine Vo ?_|exact T0|(rfl)|(exact ⟨by rw [hcl2,tnc];rfl,fun i hi=>by show ((a :: r).getD (1+i) Bs.z).l=_;rw [Nat.add_comm,List.getD_cons_succ]⟩)|(exact ⟨rfl,fun _ _=>rfl⟩)|refine Vm ?_ ?_
   ·intro j hj;have hx:=alwB_ok (r.take j) a ha.1
    have hb:=fun h:(j:Int)<r.length=>hr (r.getD (j:Int).toNat Bs.z) (getD_in (by omega))
    have hand:=fun h:(j:Int)<r.length=>and_ct (alwB a (r.take j)) (r.getD (j:Int).toNat Bs.z) hx.1 (hb h).1 (by rw [hx.2,ha.2,(hb h).2])
    have hcn:=count_ct _ hx.1;repeat' first|apply S0;conv=>whnf|refine Vo ?_|exact T0|refine W6 ?_|refine B1 ?_|(refine M0 (hand (by omega)) ?_)|(refine M0 hcn ?_)|(refine Br.d (fun h=>?_) fun h=>?_)|refine Br.bnot ?_|refine T2 ?_ ?_|refine K0 ?_
    ·refine Again.by (j+1) ⟨by omega,by omega⟩ ?_
     rw [takeL_one r Bs.z j (by omega),alwB_snoc];repeat' first|apply S0;conv=>whnf|refine Vo ?_|exact T0|(exact ⟨rfl,fun _ _=>rfl⟩)|refine Vm ?_ ?_
    ·rw [List.take_of_length_le (by omega)];rfl
theorem expo_at {g:Nat->D} (f a b c d:Int) (hg:∀ i,i<4->g i=i64 ([a,b,c,d].getD i 0)):Cr 68 [i64 f,.vec 4 g] (.agg (Ex.d ⟨f,a,b,c,d⟩)) :=
 (expo_ct f a b c d).arg ⟨rfl,rfl,hg,trivial⟩
theorem foldl_take0 (l:List Bs):0<=fillN l:=by
 have:∀ (l:List Bs) (n:Int),0<=n->0<=l.foldl (fun n b=>max n (fill1 b)) n:=fun l=>by
  induction l with
  | nil=>exact fun n h=>h
  | cons b l ih=>exact fun n h=>ih _ (by have:=Int.le_max_left n (fill1 b);show 0<=max n (fill1 b);omega)
 exact this l 0 (Int.le_refl _)
theorem fillM_ct (l:List Bs) (hl:l.length<=64) (hok:∀ b ∈ l,b.okM):Cr 71 [bss l] (i64 (fillN l)):=by
 refine .det (De Tryz.func71 ord71 [] ?_);repeat' first|apply S0;conv=>whnf
 refine Lw ord71 [] (α:=Nat) (fun i=>[(3,i64 (fillN (l.take i))),(6,bss l),(7,i64 l.length),(8,i64 i)]) (fun i=>[]) 0 (fun i=>i<=l.length) (fun i=>l.length - i) ?_ ?_
 ·refine Again.by 0 (zle _) ?_;repeat' first|apply S0;conv=>whnf|refine Vo ?_|exact T0|refine Vm ?_ ?_
  all_goals rfl
 ·intro i hi;by_cases hlt:i<l.length
  ·have hst:fillN (l.take (i+1))=max (fillN (l.take i)) (fill1 (l.getD (i:Int).toNat Bs.z)):=foldl_take (fun n b=>max n (fill1 b)) Bs.z l 0 i hlt
   rcases hok (l.getD (i:Int).toNat Bs.z) (getD_in (by omega)) with hb | hb
   ·have hv:=bvalid_ct _ hb;have hc:=count_ct _ hb;have hci:=cnt_in (l.getD (i:Int).toNat Bs.z).w;have hLL:=len_pos hb.L;have hle:=hb.le;have hf:=fill1_in _ hb;unfold fill1 at hf;repeat' first|apply S0;conv=>whnf|refine Vo ?_|refine W6 ?_|with_reducible refine Br.tt ?_|refine B1 ?_|(refine M0 hv ?_)|(refine M0 hc ?_)|refine K0 ?_|refine K1 ?_
    refine Again.by (i+1) ⟨by omega,by omega⟩ ?_
    rw [hst];repeat' first|apply S0;conv=>whnf|refine Vo ?_|exact T0|refine Vm ?_ ?_
    all_goals rfl
   ·have hv:=bvalidZ_ct hb;have h0:=foldl_take0 (l.take i)
    have e:fillN (l.take (i+1))=fillN (l.take i):=by
     rw [hst,hb,show fill1 Bs.z=0 from rfl];omega
    repeat' first|apply S0;conv=>whnf|refine Vo ?_|refine W6 ?_|with_reducible refine Br.ff ?_|refine B1 ?_|(refine M0 hv ?_)|refine K0 ?_
    refine Again.by (i+1) ⟨by omega,by omega⟩ ?_
    rw [e];repeat' first|apply S0;conv=>whnf|refine Vo ?_|exact T0
  ·rw [List.take_of_length_le (by omega)];repeat' first|apply S0;conv=>whnf|exact T0|refine B0 ?_|refine T2 ?_ ?_
def asS (f:Int) (l:List Bs):Ex:=⟨f,sgN (szs (grpN l l.length) (grpN l l.length).length) (grpN l l.length).length,0,alwN (l.filter vd),fillN l⟩
theorem assess_ct (f:Int) (l:List Bs) (V:List Str) (hl:l.length<=12) (q:Int) (hok:∀ b ∈ l,(b.ok/\b.L=q)\/b=Bs.z):Cr 35 [i64 f,bss l,strs V,.nil] (.tup [.agg (asS f l).d,i64 0]):=by
 have hok1:∀ b ∈ l,b.okM:=fun b hb=>(hok b hb).imp And.left id
 have hG:=grpN_ok l hok1 l.length (Nat.le_refl _);have hGn:=hG.le;have h1:=groups_ct l hl hok1;have h2:=align_ct (grpN l l.length) (by omega);have h3:=hits_ct (grpN l l.length) V
 have h4:=singular_ct (grpN l l.length) (by omega) fun g hg=>by have:=(hG.o g hg).2.2.1;omega
 have h5:=always_ct l hl q hok;have h6:=fillM_ct l (by omega) hok1;unfold asS;generalize grpN l l.length=L at *;generalize alwN (l.filter vd)=al at *;generalize fillN l=fl at *;refine .det (De Tryz.func35 [] [] ?_);repeat' first|apply S0;conv=>whnf|exact T0|refine B1 ?_|(refine M0 h1 ?_)|(refine M0 h2 ?_)|(refine M0 h3 ?_)|(refine M0 h4 ?_)|(refine M0 h5 ?_)|(refine M0 h6 ?_)|(refine M0 (expo_at _ _ _ _ _ (all4 rfl rfl rfl rfl)) ?_)|(exact all4 rfl rfl rfl rfl)|refine Br.bnot ?_|refine T2 ?_ ?_|refine K0 ?_|refine Vm ?_ ?_
end Kx
open Go Sx Go.Proofs
namespace Kx
def fwB (S:Stg) (k:Int × Int) (i:Nat) (r:Rc):Bs:=⟨(fldW S.s (S.P.getD i Pm.z) k r i).1,(fldW S.s (S.P.getD i Pm.z) k r i).2⟩
def colB (S:Stg) (k:Int × Int) (l:List Rc) (i:Nat):List Bs:=l.map (fwB S k i)
def colV (l:List Rc) (i:Nat):List Str:=l.map fun r=>r.v.getD i []
def rkL (S:Stg) (k:Int × Int) (l:List Rc):Nat->List Ex
 | 0=>[]| i+1=>rkL S k l i ++ [asS i (colB S k l i)]
theorem rkL_len (S:Stg) (k:Int × Int) (l:List Rc):∀ i,(rkL S k l i).length=i
 | 0=>rfl
 | i+1=>by rw [rkL,lap,rkL_len S k l i];rfl
theorem fwB_ok {S:Stg} (hS:S.ok) (k:Int × Int) {i:Nat} (hi:i<S.s.f.length) (r:Rc):((fwB S k i r).ok/\(fwB S k i r).L=(S.P.getD i Pm.z).L)\/fwB S k i r=Bs.z:=by
 unfold fwB fldW;split
 ·exact .inr rfl
 ·have hp:=hS.ps.p i hi;exact .inl ⟨⟨hp.L,encW_len _ _ _⟩,rfl⟩
theorem colB_len (S:Stg) (k:Int × Int) (l:List Rc) (i:Nat):(colB S k l i).length=l.length:=by unfold colB;rw [List.length_map]
theorem colV_len (l:List Rc) (i:Nat):(colV l i).length=l.length:=by unfold colV;rw [List.length_map]
theorem colB_at (S:Stg) (k:Int × Int) (l:List Rc) (i j:Nat) (hj:j<l.length):(colB S k l i).getD j Bs.z=fwB S k i (l.getD j Rc.z):=by
 unfold colB;rw [gDe,List.getElem?_map,gDe,List.getElem?_eq_getElem hj];rfl
theorem colV_at (l:List Rc) (i j:Nat) (hj:j<l.length):(colV l i).getD j []=(l.getD j Rc.z).v.getD i []:=by
 unfold colV;rw [gDe (l:=l.map _),List.getElem?_map,gDe (l:=l),List.getElem?_eq_getElem hj];rfl
theorem colB_ok {S:Stg} (hS:S.ok) (k:Int × Int) (l:List Rc) {i:Nat} (hi:i<S.s.f.length):∀ b ∈ colB S k l i,(b.ok/\b.L=(S.P.getD i Pm.z).L)\/b=Bs.z:=fun b hb=>by
 obtain ⟨r,_,rfl⟩:=List.mem_map.1 hb;exact fwB_ok hS k hi r
def rwsS (S:Stg) (k:Int × Int) (l:List Rc):D:=.tab 3 l.length fun j=>rowL (l.getD j Rc.z) S.s.f.length fun i=>fldW S.s (S.P.getD i Pm.z) k (l.getD j Rc.z) i
theorem eallS_ct (S:Stg) (hS:S.ok) (k:Int × Int) (l:List Rc) (hl:RsOk S.s l):Cr 34 [S.s.d,.tab 3 S.P.length (pmsL S.P),.agg [u64 k.1,u64 k.2],rcs l] (.tup [rwsS S k l,i64 0]):=by
 rw [hS.Pn]
 exact eall_ct S.s hS.s.ok _ hS.ps k l hl (fun j i=>fldW S.s (S.P.getD i Pm.z) k (l.getD j Rc.z) i) fun j i hj hi=>fieldR_ct set_ok S.s hS.s.ok _ hS.ps k _ (hl.ok _ (getD_in hj)) i hi
theorem ex_ite (c:Prop) [Decidable c] (a b:Ex):iteL c a.d b.d=(if c then a else b).d:=by
 show [i64 (if c then _ else _),i64 (if c then _ else _),i64 (if c then _ else _),i64 (if c then _ else _),i64 (if c then _ else _)]=_
 split<;>rfl
theorem col_app (S:Stg) (k:Int × Int) (l:List Rc) (i j:Nat) (hj:j<l.length) (q:Nat) (hq:q<j+1):iteL (q<j) ((colB S k l i).getD q Bs.z).l (fwB S k i (l.getD j Rc.z)).l=((colB S k l i).getD q Bs.z).l:=by
 rw [bs_ite];split
 ·rfl
 ·rw [show q=j by omega,colB_at S k l i j hj]
theorem val_app (l:List Rc) (i j:Nat) (hj:j<l.length) (q:Nat) (hq:q<j+1):iteL (q<j) [.str ((colV l i).getD q [])] [.str ((l.getD j Rc.z).v.getD i [])] = [D.str ((colV l i).getD q [])]:=by
 show [D.str (if q<j then _ else _)]=_
 split
 ·rfl
 ·rw [show q=j by omega,colV_at l i j hj]
theorem assessA_ct (S:Stg) (hS:S.ok) (k:Int × Int) (l:List Rc) (hl:RsOk S.s l) (h12:l.length<=12):Cr 12 [S.s.d,.tab 3 S.P.length (pmsL S.P),.agg [u64 k.1,u64 k.2],rcs l,nils S.s.f.length] (.tup [exs (rkL S k l S.s.f.length),i64 0]):=by
 have n5:=hS.s.ok.n5;have hrk:=rkL_len S k l;refine .det (De Tryz.func12 ord12 [] ?_);repeat' first|apply S0;conv=>whnf|refine B1 ?_|(refine M0 (echeckS_ct S hS) ?_)|(refine M0 (rAll_ct S.s hS.s.ok l hl) ?_)|(refine M0 (eallS_ct S hS k l hl) ?_)|refine Br.bnot ?_|refine K0 ?_
 refine Lw ord12 [] (α:=Nat) (fun i=>[(3,rcs l),(14,rwsS S k l),(16,.own 0),(54,nils S.s.f.length),(55,i64 S.s.f.length),(56,i64 i)]) (fun i=>[(0,.arr 52 5 (rkL S k l i).length fun q=>((rkL S k l i).getD q Ex.z).d)]) 1 (fun i=>i<=S.s.f.length) (fun i=>S.s.f.length - i) ?_ ?_
 ·refine Again.by 0 (zle _) ?_;repeat' first|apply S0;conv=>whnf|refine Vo ?_|exact T0|(rfl)|refine Vm ?_ ?_
 ·intro i hi;by_cases hlt:i<S.s.f.length
  ·have ha:=assess_ct i (colB S k l i) (colV l i) (by rw [colB_len];exact h12) _ (colB_ok hS k l hlt);repeat' first|apply S0;conv=>whnf|refine Vo ?_|refine B1 ?_
   refine Lw ord12 [] (α:=Nat) (fun j=>[(3,rcs l),(14,rwsS S k l),(16,.own 0),(17,i64 i),(18,.nil),(19,.own 1),(20,.own 2),(54,nils S.s.f.length),(55,i64 S.s.f.length),(56,i64 i),(61,rwsS S k l),(62,i64 l.length),(63,i64 j)]) (fun j=>[(0,.arr 52 5 (rkL S k l i).length fun q=>((rkL S k l i).getD q Ex.z).d),(1,.arr 117 2 j fun q=>((colB S k l i).getD q Bs.z).l),(2,.arr 9 1 j fun q=>[.str ((colV l i).getD q [])])]) 3 (fun j=>j<=l.length) (fun j=>l.length - j) ?_ ?_
   ·refine Again.by 0 (zle _) ?_;repeat' first|apply S0;conv=>whnf|refine Vo ?_|exact T0
   ·intro j hj
    have hvn:=fun h:(j:Int)<l.length=>(hl.ok (l.getD (j:Int).toNat Rc.z) (getD_in (by omega))).n
    have hap:=fun h:(j:Int)<l.length=>col_app S k l i j (by omega)
    have hav:=fun h:(j:Int)<l.length=>val_app l i j (by omega)
    have ha2:=fun h:¬(j:Int)<l.length=>ha.arg (args:=[i64 i,.tab 2 j fun q=>((colB S k l i).getD q Bs.z).l,.tab 1 j fun q=>[.str ((colV l i).getD q [])],.nil]) ⟨rfl,rfl,⟨by rw [colB_len];omega,fun _ _=>rfl⟩,⟨by rw [colV_len];omega,fun _ _=>rfl⟩,trivial,trivial⟩
    repeat' first|apply S0;conv=>whnf|refine Vo ?_|refine Vb ?_|refine W6 ?_|refine B1 ?_|(refine M0 (ha2 (by omega)) ?_)|(refine Br.d (fun h=>?_) fun h=>?_)|refine Br.bnot ?_|refine T2 ?_ ?_|refine K0 ?_|refine Vm ?_ ?_
    all_goals try
     refine Again.by (j+1) ⟨by omega,by omega⟩ ?_;repeat' first|apply S0;conv=>whnf|refine Vo ?_|exact T0|(exact ⟨rfl,fun q hq=>hap (by assumption) q hq⟩)|(exact ⟨rfl,fun q hq=>hav (by assumption) q hq⟩)|refine Vm ?_ ?_
     done
    ·simp [asS,Ex.d,noSh,noShL]
    ·have:=hrk i;exact (show ((rkL S k l i).length+1)*40<=140737488355328 by omega)
    refine Again.by (i+1) ⟨by omega,by omega⟩ ?_
    rw [rkL];repeat' first|apply S0;conv=>whnf|refine Vo ?_|exact T0|(exact app1 Ex.d Ex.z ex_ite _ _)|refine Vm ?_ ?_
  ·rw [show i=S.s.f.length by omega];repeat' first|apply S0;conv=>whnf|exact T0|exact T1|refine B0 ?_|refine T2 ?_ ?_
   all_goals exact ⟨rfl,fun _ _=>rfl⟩
end Kx
open Go Sx Go.Proofs
namespace Kx
theorem bcheckI_ct (S:Stg) (hS:S.ok) (i:Nat) (hi:i<S.K.length):Cr 181 [S.s.d,kys S.K,i64 i] (i64 0):=by
 have hK5:=hS.K5;refine .det (De Tryz.func181 [] [] ?_);repeat' first|apply S0;conv=>whnf|exact T0|refine B1 ?_|refine B0 ?_|(refine M0 (bcheckK_ct S.s hS.s.ok S.K (by omega) hS.K) ?_)|refine Br.swap ?_|refine Br.bnot ?_|refine T2 ?_ ?_|refine K0 ?_
def HsOk (x:Int × Bool):Prop:=(0<=x.1/\x.1<=18446744073709551615)/\(x.2=false->x.1=0)
theorem bHash_ct (S:Stg) (hS:S.ok) (q:Int × Int) (i:Nat) (hi:i<S.K.length) (r:Rc) (hr:r.ok S.s):Ct Tryz.prog 119 [S.s.d,.agg [u64 q.1,u64 q.2],kys S.K,i64 i,r.d] fun o outs=>∃ (h:Int) (ok:Bool),HsOk (h,ok)/\o = .tup [u64 h,.bool ok,i64 0]/\outs = []:=by
 have hK5:=hS.K5;have h1:=bcheckI_ct S hS i hi;have h2:=rCheck_ct S.s hS.s.ok r hr;have h3:=bhash_ct q S.s (S.K.getD (i:Int).toNat []) (hS.K _ (getD_in (by omega))) i (by omega) r hr;refine .some2 (De Tryz.func119 ord119 [] ?_);repeat' first|apply S0;conv=>whnf|refine Vo ?_|refine B1 ?_|(refine M0 h1 ?_)|(refine M0 h2 ?_)|(refine Met.by h3 ?_;rintro q outs ⟨h,ok,hh,rfl,rfl⟩)|refine Br.bnot ?_|refine K0 ?_|refine K1 ?_
 all_goals
  refine Lf2.by h ok hh ?_;repeat' first|apply S0;conv=>whnf|exact T0|refine T2 ?_ ?_
theorem erecS_ct (S:Stg) (hS:S.ok) (k:Int × Int) (r:Rc) (hr:r.ok S.s):Cr 18 [S.s.d,.tab 3 S.P.length (pmsL S.P),.agg [u64 k.1,u64 k.2],r.d] (.tup [.agg (rowL r S.s.f.length fun i=>fldW S.s (S.P.getD i Pm.z) k r i),i64 0]):=by
 rw [hS.Pn]
 exact erecord_ct S.s hS.s.ok _ hS.ps k r hr (fun i=>fldW S.s (S.P.getD i Pm.z) k r i) fun i hi=>fieldR_ct set_ok S.s hS.s.ok _ hS.ps k _ hr i hi
abbrev Hz:=List (Int × Bool)
def hzU (z:Hz):Nat->List D:=fun i=>[u64 (z.getD i (0,false)).1]
def hzB (z:Hz):Nat->List D:=fun i=>[.bool (z.getD i (0,false)).2]
def snL (S:Stg) (k:Int × Int) (r:Rc) (z:Hz):List D:=[i64 r.id,i64 r.ver,.tab 2 S.s.f.length fun i=>bitL (fldW S.s (S.P.getD i Pm.z) k r i),.tab 1 z.length (hzU z),.tab 1 z.length (hzB z)]
def ZOk (S:Stg) (z:Hz):Prop:=z.length=S.K.length/\∀ x ∈ z,HsOk x
theorem hzU_app (z:Hz) (h:Int) (ok:Bool):z.length+1=(z ++ [(h,ok)]).length/\∀ i,i<(z ++ [(h,ok)]).length->iteL (i<z.length) (hzU z i) (selC [[u64 h]] (i - z.length))=hzU (z ++ [(h,ok)]) i :=
 app_one (fun x:Int × Bool=>[u64 x.1]) (0,false) (fun _ _=>rfl) _ _ rfl
theorem hzB_app (z:Hz) (h:Int) (ok:Bool):z.length+1=(z ++ [(h,ok)]).length/\∀ i,i<(z ++ [(h,ok)]).length->iteL (i<z.length) (hzB z i) (selC [[.bool ok]] (i - z.length))=hzB (z ++ [(h,ok)]) i :=
 app_one (fun x:Int × Bool=>[.bool x.2]) (0,false) (fun _ _=>rfl) _ _ rfl
theorem hsn {z:Hz} {x:Int × Bool} (hz:∀ y ∈ z,HsOk y) (hx:HsOk x):∀ y ∈ z ++ [x],HsOk y:=fun y hy=>by
 rcases List.mem_append.1 hy with h | h
 ·exact hz y h
 ·rw [List.mem_singleton.1 h];exact hx
theorem sent_ct (S:Stg) (hS:S.ok) (k:Int × Int) (r:Rc) (hr:r.ok S.s):Ct Tryz.prog 75 [S.d,.agg [u64 k.1,u64 k.2],r.d] fun q outs=>∃ z:Hz,ZOk S z/\q = .agg (snL S k r z)/\outs = []:=by
 have hK5:=hS.K5;have h1:=erecS_ct S hS k r hr;refine .some (De Tryz.func75 ord75 [] ?_);repeat' first|apply S0;conv=>whnf|(refine M0 h1 ?_)|refine K0 ?_
 refine Lw ord75 [] (α:=Hz) (fun z=>[(3,.loc 0 0),(4,.loc 1 0),(5,.loc 2 0),(6,.loc 3 0),(7,.loc 4 0),(26,i64 S.K.length),(27,i64 z.length)]) (fun z=>[(0,.var S.l),(1,.var [u64 k.1,u64 k.2]),(2,.var r.l),(3,.var [i64 0,i64 0,.nil,.nil,.nil]),(4,.var [i64 r.id,i64 r.ver,.tab 2 S.s.f.length fun i=>bitL (fldW S.s (S.P.getD i Pm.z) k r i),.own 5,.own 6]),(5,.arr 43 1 z.length (hzU z)),(6,.arr 4 1 z.length (hzB z))]) 7 (fun z=>z.length<=S.K.length/\∀ x ∈ z,HsOk x) (fun z=>S.K.length - z.length) ?_ ?_
 ·refine Again.by [] ⟨zle _,nofun⟩ ?_;repeat' first|apply S0;conv=>whnf|refine Vo ?_|exact T0|refine Vm ?_ ?_
 ·intro z ⟨hz,hh⟩;dsimp only at hz hh ⊢
  have hc:=fun h:(z.length:Int)<S.K.length=>bHash_ct S hS k z.length (by omega) r hr
  repeat' first|apply S0;conv=>whnf|refine Vb ?_|exact T0|refine W6 ?_|(refine Met.by (hc (by omega)) ?_;rintro q outs ⟨h,ok,hx,rfl,rfl⟩)|(refine Br.d (fun h=>?_) fun h=>?_)|refine T2 ?_ ?_|refine K0 ?_
  all_goals try
   refine Again.by (z ++ [(h,ok)]) ⟨⟨by simp;omega,hsn hh hx⟩,by simp;omega⟩ ?_;repeat' first|apply S0;conv=>whnf|refine Vo ?_|exact T0|(exact hzU_app z h ok)|(exact hzB_app z h ok)|(simp;done)|refine Vm ?_ ?_
   done
  refine Lf.by z ⟨by omega,hh⟩ ?_;repeat' first|apply S0;conv=>whnf|exact T0|exact T1|refine T2 ?_ ?_
end Kx
open Go Sx Go.Proofs
namespace Kx
theorem curR_len (l:List Rw):(curR l).length<=l.length:=by
 unfold curR;rw [List.length_map];exact List.length_filter_le _ _
def pKey (S:Stg) (p:Pt):Int × Int:=keyD S.m ([101,112,111,99,104,32] ++ itS p.e.toNat)
def pRk (S:Stg) (p:Pt):List Ex:=rkL S (pKey S p) (curR p.rows) S.s.f.length
def ZsOk (S:Stg) (Z:List Hz):Prop:=∀ z ∈ Z,ZOk S z
def shN (S:Stg) (k:Int × Int) (l:List Rc) (Z:List Hz) (n:Nat):D:=.tab 5 n fun j=>snL S k (l.getD j Rc.z) (Z.getD j [])
structure PtS (S:Stg) (p:Pt):Prop where
 ok:PtOk S.s p
 n:0<=p.n/\p.n<4
 e:1<=p.e/\p.e<=65535
 s:0<=p.sr/\p.sr<=1048575
 m:p.rows.length<=12
theorem PtS.E {S:Stg} {p:Pt} (h:PtS S p):ptE p=0:=by
 have:=h.n;have:=h.e;have:=h.s;rw [ptE,if_neg (by omega)]
theorem pKey_ct (S:Stg) (p:Pt) (hp:PtS S p):Cr 13 [.agg [u64 S.m.1,u64 S.m.2],i64 p.e] (.agg [u64 (pKey S p).1,u64 (pKey S p).2]):=by
 have he:=hp.e;have:=epochKey_ct S.m p.e.toNat (by omega);rw [show ((p.e.toNat:Nat):Int)=p.e by omega] at this;exact this
theorem psCheck_ct (S:Stg) (hS:S.ok) (p:Pt) (hp:PtS S p):Cr 74 [S.d,p.d] (i64 0):=by
 have:=ptcheck_ct S hS p hp.ok
 rwa [hp.E] at this
theorem curR_ct (p:Pt) (hv:valid p.rows=0):Cr 11 [rws p.rows] (.tup [rcs (curR p.rows),ints (deads p.rows),i64 0]):=by
 have:=current_ct p.rows hv
 rwa [recs_rcs] at this
theorem pAssess_ct (S:Stg) (hS:S.ok) (p:Pt) (hp:PtS S p):Cr 12 [S.s.d,.tab 3 S.P.length (pmsL S.P),.agg [u64 (pKey S p).1,u64 (pKey S p).2],rcs (curR p.rows),nils S.s.f.length] (.tup [exs (pRk S p),i64 0]) :=
 assessA_ct S hS (pKey S p) (curR p.rows) (curR_ok hp.ok) (by have:=curR_len p.rows;have:=hp.m;omega)
theorem pAdmit_ct (S:Stg) (hS:S.ok) (p:Pt):Cr 15 [exs S.B,exs (pRk S p)] (i64 (admE S.B (pRk S p))) :=
 admit_ct _ _ (by have:=hS.n3;unfold pRk;rw [rkL_len];omega)
theorem sheetF_ct (S:Stg) (hS:S.ok) (p:Pt) (hp:PtS S p) (h:admE S.B (pRk S p)≠0):Cr 38 [S.d,p.d] (.tup [.nil,.nil,i64 (admE S.B (pRk S p))]):=by
 have he:=hp.e;refine .det (De Tryz.func38 [] [] ?_);repeat' first|apply S0;conv=>whnf|exact T0|refine B1 ?_|refine B0 ?_|(refine M0 (psCheck_ct S hS p hp) ?_)|(refine M0 (curR_ct p hp.ok.v) ?_)|(refine M0 (pKey_ct S p hp) ?_)|(refine M0 (pAssess_ct S hS p hp) ?_)|(refine M0 (pAdmit_ct S hS p) ?_)|refine Br.bnot ?_|refine T2 ?_ ?_|(refine CallOK.ctF (g:=11) (Step.out ?_))|refine K0 ?_
theorem hzU_ite (c:Prop) [Decidable c] (z y:Hz):(fun i=>iteL1 c (hzU z i) (hzU y i))=hzU (if c then z else y):=by
 funext i
 show [u64 (if c then _ else _)]=_
 split<;>rfl
theorem hzB_ite (c:Prop) [Decidable c] (z y:Hz):(fun i=>iteL1 c (hzB z i) (hzB y i))=hzB (if c then z else y):=by
 funext i
 show [D.bool (if c then _ else _)]=_
 split<;>rfl
theorem sn_ite (c:Prop) [Decidable c] (S:Stg) (k:Int × Int) (a b:Rc) (z y:Hz):iteL c (snL S k a z) (snL S k b y)=if c then snL S k a z else snL S k b y:=by
 show [D.int .i64 (if c then a.id else b.id),D.int .i64 (if c then a.ver else b.ver),D.tab 2 (if c then _ else _) (fun i=>iteL1 c (bitL _) (bitL _)),D.tab 1 (if c then _ else _) (fun i=>iteL1 c (hzU z i) (hzU y i)),D.tab 1 (if c then _ else _) (fun i=>iteL1 c (hzB z i) (hzB y i))]=_
 rw [hzU_ite,hzB_ite];split
 ·rename_i h;simp [snL,h,iteL1,bitL,zipI,D.ite1,u64s]
 ·rename_i h;simp [snL,h,iteL1,bitL,zipI,D.ite1,u64s]
theorem sn_app (S:Stg) (k:Int × Int) (l:List Rc) (Z:List Hz) (z:Hz) (q:Nat) (hq:q<(Z ++ [z]).length):iteL (q<Z.length) (snL S k (l.getD q Rc.z) (Z.getD q [])) (selC [snL S k (l.getD (Z.length:Int).toNat Rc.z) z] (q - Z.length))=snL S k (l.getD q Rc.z) ((Z ++ [z]).getD q []):=by
 rw [lap,List.length_singleton] at hq;rw [show q - Z.length=0 by omega];refine (sn_ite _ S k (l.getD q Rc.z) (l.getD (Z.length:Int).toNat Rc.z) (Z.getD q []) z).trans ?_;split
 ·rename_i h;rw [getD_ap1 _ _ _ _ h]
 ·rw [show q=Z.length by omega,getD_last,tnc]
theorem sheetT_ct (S:Stg) (hS:S.ok) (p:Pt) (hp:PtS S p) (h0:admE S.B (pRk S p)=0):Ct Tryz.prog 38 [S.d,p.d] fun q outs=>∃ Z:List Hz,(ZsOk S Z/\Z.length=(curR p.rows).length)/\q = .tup [shN S (pKey S p) (curR p.rows) Z (curR p.rows).length,ints (deads p.rows),i64 0]/\outs = []:=by
 have he:=hp.e;have hl:=curR_ok hp.ok;have h12:=curR_len p.rows;have hmm:=hp.m;have ha:=pAdmit_ct S hS p;rw [h0] at ha;have hcu:=curR_ct p hp.ok.v;have hass:=pAssess_ct S hS p hp;have hpk:=pKey_ct S p hp;generalize pKey S p=k at *;generalize curR p.rows=l at *;refine .some (De Tryz.func38 [] [] ?_);repeat' first|apply S0;conv=>whnf|refine B1 ?_|refine B0 ?_|(refine M0 (psCheck_ct S hS p hp) ?_)|(refine M0 hcu ?_)|(refine M0 hpk ?_)|(refine M0 hass ?_)|(refine M0 ha ?_)|refine Br.bnot ?_|(refine CallOK.ctF (g:=11) (Step.out ?_))|refine K0 ?_
 refine Lw [] [] (α:=List Hz) (fun Z=>[(2,.loc 0 0),(9,ints (deads p.rows)),(11,.loc 1 0),(15,.own 2),(61,rcs l),(62,i64 l.length),(63,i64 Z.length)]) (fun Z=>[(0,.var S.l),(1,.var [u64 k.1,u64 k.2]),(2,.arr 167 5 Z.length fun j=>snL S k (l.getD j Rc.z) (Z.getD j []))]) 3 (fun Z=>Z.length<=l.length/\ZsOk S Z) (fun Z=>l.length - Z.length) ?_ ?_
 ·refine Again.by [] ⟨zle _,nofun⟩ ?_;repeat' first|apply S0;conv=>whnf|refine Vo ?_|exact T0|refine Vm ?_ ?_
 ·intro Z ⟨hZ,hz⟩;dsimp only at hZ hz ⊢
  have hc:=fun h:(Z.length:Int)<l.length=>sent_ct S hS k (l.getD (Z.length:Int).toNat Rc.z) (hl.ok _ (getD_in (by omega)))
  repeat' first|apply S0;conv=>whnf|refine Vo ?_|refine Vb ?_|refine W6 ?_|(refine Met.by (hc (by omega)) ?_;rintro q outs ⟨z,hx,rfl,rfl⟩)|(refine Br.d (fun h=>?_) fun h=>?_)|refine K0 ?_
  ·refine Again.by (Z ++ [z]) ⟨⟨by simp;omega,fun y hy=>?_⟩,by simp;omega⟩ ?_
   ·rcases List.mem_append.1 hy with h9 | h9
    ·exact hz y h9
    ·rw [List.mem_singleton.1 h9];exact hx
   repeat' first|apply S0;conv=>whnf|refine Vo ?_|exact T0|(simp;done)|(exact ⟨by simp,fun q hq=>sn_app S k l Z z q hq⟩)|refine Vm ?_ ?_
  ·refine Lf.by Z ⟨hz,by omega⟩ ?_;repeat' first|apply S0;conv=>whnf|exact T0|exact T1|refine T2 ?_ ?_
   exact ⟨by omega,fun _ _=>rfl⟩
end Kx
open Go Sx Go.Proofs
namespace Kx
theorem hexN_ct (x:Int) (hx:U64 x):Cr 133 [u64 x] (.str (hex16 x)):=by
 have h2:=fuint2_ct x hx
 have hr:=fun (j:Nat) (hj:j<=15)=>repeat_at (15 - j) (by omega) (16 - ((dgs x j).length:Int)) (by rw [dgs_len];omega)
 have hlen:=dgs_len x;refine .det (De Tryz.func133 [] [] ?_);repeat' first|apply S0;conv=>whnf|exact T0|(refine Met.by h2 ?_;rintro q outs ⟨j,hj,rfl,rfl⟩)|(refine Wr.i64 ?_ ?_;focus ((rw [hlen];omega);done))|(refine Vc.om ?_ ?_;focus ((rw [List.length_replicate,hlen];omega);done))|(refine Met.by (hr _ hj.1) ?_;rintro q outs ⟨rfl,rfl⟩)|refine T2 ?_ ?_|refine K0 ?_
 exact hex16_is hx hj.1 hj.2
theorem line_ct2 (l:List Str) (hl:l.length<=1000) (hj:(joinS [32] l).length<=100000):Cr 131 [strs l] (.str (joinS [32] l ++ [10])):=by
 have h:=sjoin_ct l [32] (by omega) (by omega);refine .det (De Tryz.func131 [] [] ?_);repeat' first|apply S0;conv=>whnf|exact T0|(refine M0 h ?_)|refine T2 ?_ ?_|refine K0 ?_|refine Vm ?_ ?_
 exact (show (joinS [32] l).length+1<=9223372036854775807 by omega)
theorem line_at (l:List Str) (hl:l.length<=1000) (hj:(joinS [32] l).length<=100000) {n:Nat} {g:Nat->List D} (h:n=l.length/\∀ i,i<l.length->g i = [.str (l.getD i [])]):Cr 131 [.tab 1 n g] (.str (joinS [32] l ++ [10])) :=
 (line_ct2 l hl hj).arg ⟨rfl,⟨h.1,h.2⟩,trivial⟩
theorem line_len (b m:Nat) (l:List Str) (hb:∀ t ∈ l,t.length<=b) (hm:l.length<=m):(joinS [32] l).length<=(b+1)*m:=Nat.le_trans (join_len 32 b l hb) (Nat.mul_le_mul_left _ hm)
end Kx
