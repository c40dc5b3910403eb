/-
  The walk of this proof, third part: code, loops, functions; from the given row to the walk.
  No condition beyond those written in each theorem.
-/
import Derived.Test.YtjommlbfjnifmaaGreatDoorFB
import Derived.OrdersHeld
import Derived.Deep.LoopGhost
import Derived.RangeFuncRecord
import Derived.OrdersIn
import Derived.TacticsIn
set_option linter.unusedSimpArgs false
set_option linter.unusedVariables false
set_option maxRecDepth 4000
namespace Sx
open Go
def fndD:List (List Int × D)->List Int->Nat->Option (Nat × D)
 | [],_,_=>none
 | x :: l,k,i=>match decide (x.1=k) with
   | true=>some (i,x.2)| false=>fndD l k (i+1)
def dget (l:List (List Int × D)) (k:List Int):Option D:=(fndD l k 0).map (·.2)
def dput (l:List (List Int × D)) (k:List Int) (v:D):List (List Int × D):=match fndD l k 0 with
 | none=>l ++ [(k,v)]
 | some p=>l.modify p.1 fun _=>(k,v)
def fndE:List MapEntry->List (List Int × D)->List Int->Nat->Option (Nat × Value)
 | e :: es,x :: l,k,i=>match decide (x.1=k) with
   | true=>some (i,e.val)| false=>fndE es l k (i+1)
 | _,_,_,_=>none
theorem fndE_none {k:List Int}:∀ {es:List MapEntry} {l:List (List Int × D)} {i:Nat},es.length=l.length->fndE es l k i=none->fndD l k i=none
 | [],[],_,_,_=>rfl
 | e :: es,x :: l,i,hl,h=>by
   simp only [fndE] at h;simp only [fndD];split at h
   ·cases h
   ·exact fndE_none (by simpa using hl) h
 | [],_ :: _,_,hl,_=>by simp at hl
 | _ :: _,[],_,hl,_=>by simp at hl
theorem fndE_some {k:List Int} {p:Nat × Value}:∀ {es:List MapEntry} {l:List (List Int × D)} {i:Nat},fndE es l k i=some p->∃ d e,fndD l k i=some (p.1,d)/\i<=p.1/\es[p.1 - i]? = some e/\l[p.1 - i]? = some (k,d)/\p.2=e.val
 | [],_,_,h=>by simp [fndE] at h
 | _ :: _,[],_,h=>by simp [fndE] at h
 | e :: es,x :: l,i,h=>by
   simp only [fndE] at h;simp only [fndD];split at h
   ·rename_i hd;simp only [decide_eq_true_eq] at hd;cases h;obtain ⟨y,v⟩:=x;dsimp only at hd;subst hd;exact ⟨v,e,rfl,Nat.le_refl _,by simp,by simp,rfl⟩
   ·obtain ⟨d,e',h1,h2,h3,h4,h5⟩:=fndE_some h;refine ⟨d,e',h1,by omega,?_,?_,h5⟩
    ·rw [show p.1 - i=(p.1 - (i+1))+1 by omega];simpa using h3
    ·rw [show p.1 - i=(p.1 - (i+1))+1 by omega];simpa using h4
section
variable {P:Program} {Γ:Ty} {c:Cx P} {nt:Nt} {M:Mi} {st:St} {a:Act} {w:World}
theorem run_findAsking_keys (H:TyOK P Γ) {kt:Nat} {ks:List Lk} (hf:flatG Γ 6 kt=some ks) (ha:allI ks=true) {sk:Bool} (hs:(Γ.get kt).k.isStr=sk) (r:List Int) (hr:ks.length=r.length) (w:World) :
 ∀ (es:List MapEntry) (l:List (List Int × D)) (i:Nat),es.map (·.key)=l.map (fun x=>keyV sk x.1)->(∀ x ∈ l,x.1.length=ks.length) ->
   (Instr.findAsking kt (keyV sk r) es i).run P w = .ok (fndE es l r i) w
 | [],[],i,_,_=>by simp [Instr.findAsking,fndE]
 | e :: es,x :: l,i,he,hl=>by
   simp only [List.map_cons,List.cons.injEq] at he;obtain ⟨h1,he⟩:=he;have hx:=hl x (by simp);have hq:=run_equalIn_flat H 9994 6 kt ks hf (kis r) (kis x.1) (okL_kis ha hr) (okL_kis ha hx.symm) w;rw [keyV_top hs,keyV_top hs] at hq
   have hq' : (Op.equal kt (keyV sk r) e.key).run P w = .ok (decide (x.1=r)) w:=by
    rw [h1,<-eqVs_kis (by rw [hx,<-hr])];simpa [Op.equal,Op.maxDepth] using hq
   simp only [Instr.findAsking,Sem.run_bind,hq',Result.andThen_ok,fndE]
   cases hd:decide (x.1=r) with
   | true=>simp
   | false =>
     have ho:=run_findAsking_keys H hf ha hs r hr w es l (i+1) he fun y hy=>hl y (by simp [hy])
     simpa using ho
 | [],_ :: _,_,h,_=>by simp at h
 | _ :: _,[],_,h,_=>by simp at h
theorem findNow_keys {k:IntKind} {n:Int}:∀ (es:List MapEntry) (l:List (List Int × D)) (i:Nat),es.map (·.key)=l.map (fun x=>keyV false x.1)->(∀ x ∈ l,x.1.length=1) ->
 Instr.findNow (.int k) (.int .i64 n) es i=some (fndE es l [n] i)
 | [],[],i,_,_=>rfl
 | e :: es,x :: l,i,he,hl=>by
   simp only [List.map_cons,List.cons.injEq] at he;obtain ⟨h1,he⟩:=he;have hx:=hl x (by simp);obtain ⟨y,v⟩:=x
   obtain ⟨a,rfl⟩:∃ a,y = [a]:=by
    match y,hx with
    | [a],_=>exact ⟨a,rfl⟩
   have h1:e.key = .int .i64 a:=h1
   have ih:=findNow_keys (k:=k) (n:=n) es l (i+1) he fun y hy=>hl y (by simp [hy])
   simp only [Instr.findNow,h1,Instr.sameNow,fndE];by_cases hna:n=a
   ·subst hna;simp
   ·have h3:¬([a]:List Int) = [n]:=fun h=>hna (by simpa using h.symm)
    have h4:(n == a)=false:=by rwa [beq_eq_false_iff_ne]
    simp only [h3,decide_false,h4,if_true];exact ih
 | [],_ :: _,_,h,_=>by simp at h
 | _ :: _,[],_,h,_=>by simp at h
theorem run_findKey_keys (H:TyOK P Γ) {kt:Nat} {ks:List Lk} (hf:flatG Γ 6 kt=some ks) (ha:allI ks=true) {sk:Bool} (hs:(Γ.get kt).k.isStr=sk) (r:List Int) (hr:ks.length=r.length) (w:World)
 (es:List MapEntry) (l:List (List Int × D)) (he:es.map (·.key)=l.map (fun x=>keyV sk x.1)) (hl:∀ x ∈ l,x.1.length=ks.length) :
   (Instr.findKey kt (keyV sk r) es).run P w = .ok (fndE es l r 0) w:=by
 cases sk with
 | true =>
   obtain ⟨dd,hu⟩:∃ dd,P.underlying kt=some dd:=by
    obtain ⟨_,dd,_,_,hu,_⟩:=H.ok (t:=kt) rfl (flat_ne hf);exact ⟨dd,hu⟩
   have ho:=run_findAsking_keys H hf ha hs r hr w es l 0 he hl
   cases es with
   | nil =>
     cases l with
     | nil=>simp [Instr.findKey,run_underlying hu,Instr.findNow,fndE]| cons=>simp at he
   | cons e es =>
     have hn:Instr.findNow dd (keyV true r) (e :: es) 0=none:=by
      simp only [Instr.findNow]
      cases dd<;>rfl
     simp [Instr.findKey,run_underlying hu,hn,ho]
 | false =>
   obtain ⟨k,rfl,hne,_⟩:=flat_one hf hs
   obtain ⟨kk,dd,hu,hdd⟩:∃ kk dd,P.underlying kt=some dd/\dd = .int kk:=by
    unfold flatG at hf;split at hf
    ·rename_i k0 hk;obtain ⟨_,dd,_,_,hu,_,_,_,_,_,hkc⟩:=H.ok hk (by simp)
     cases dd<;>simp only [kchk,bft] at hkc
     exact ⟨_,_,hu,rfl⟩
    ·cases hf;simp [allI] at ha
    ·cases hf;simp [allI] at ha
    ·rename_i fs hk;rw [hk] at hs;simp [TK.isStr] at hs
    ·cases hf
   subst hdd
   match r,hr with
   | [n],_ =>
     have:=findNow_keys (k:=kk) (n:=n) es l 0 he hl;simp [Instr.findKey,run_underlying hu,keyV,kis,this]
def TK.isD:TK->Bool
 | .slice _=>true| .struct _=>true| _=>false
def keyN (Γ:Ty) (kt:Nat):Nat:=match flatG Γ 6 kt with
 | some ks=>ks.length| none=>0
def bEq:Bool->Bool->Bool
 | true,b=>b| false,b=>!b
theorem bEq_of {a b:Bool} (h:bEq a b=true):a=b:=by cases a<;>cases b<;>simp [bEq] at h ⊢
def mapTyM (Γ:Ty) (t:Nat) (K:Nat->Nat->List Lk->Prop):Prop :=
 match (Γ.get t).k with
 | .map kt et=>match flatG Γ 6 kt with
   | some ks=>match allI ks,(Γ.get et).k.isD with
     | true,true=>K kt et ks| _,_=>False
   | none=>False
 | _=>False
theorem mapTyM_of (H:TyOK P Γ) {t:Nat} {K:Nat->Nat->List Lk->Prop} (h:mapTyM Γ t K):∃ kt et ks z,K kt et ks/\P.underlying t=some (.map kt et)/\flatG Γ 6 kt=some ks/\allI ks=true/\(∀ w,(zeroValue et).run P w = .ok z w)/\∀ (M:Mi) (im:Bool),Rd M im (Γ.get et).zero z:=by
 unfold mapTyM at h;split at h
 case h_2=>exact h.elim
 rename_i kt et hk;split at h
 case h_2=>exact h.elim
 rename_i ks h3;split at h
 case h_2=>exact h.elim
 rename_i h5 h6;obtain ⟨_,dd,_,_,hu,_,_,_,_,_,hkc⟩:=H.ok hk (by simp)
 cases dd<;>simp only [kchk,bft] at hkc
 simp only [bat,beq_iff_eq] at hkc;obtain ⟨rfl,rfl⟩:=hkc;obtain ⟨i,_,z,hi,_,_,_,hz,_,hzk,_⟩:=H.ok (t:=et) rfl (by intro e;rw [e] at h6;simp [TK.isD] at h6);exact ⟨kt,et,ks,z,h,hu,h3,h5,fun w=>by simp [zeroValue,typeInfo,hi,hz],fun M im=>zchk_rd hzk⟩
def optZ (z:D):Option D->D
 | some d=>d| none=>z
def lookO (ok:Bool) (z:D) (o:Option D):D:=match ok with
 | true=>.tup [optZ z o,.bool o.isSome]| false=>optZ z o
def lookM (Γ:Ty) (st:St) (t:Nat) (m k:D) (ok:Bool) (K:D->St->Prop) (no:Prop):Prop :=
 match m with
 | .mref j=>match st.sto j with
   | .mpd sk kn l=>mapTyM Γ t fun kt et ks=>match Nat.beq kn ks.length,bEq sk (Γ.get kt).k.isStr with
     | true,true=>keyD sk k fun r=>match Nat.beq ks.length r.length with
       | true=>Lf (fun o=>dget l r=o) fun o=>K (lookO ok (Γ.get et).zero o) st
       | false=>False
     | _,_=>False
   | _=>no
 | _=>no
def keepD (v:D) (K:D->Prop):Prop:=match v.immB with
 | true=>K v
 | false=>match v with
   | .agg l=>match immL l with
     | true=>K (.agg l)| false=>False
   | _=>False
theorem keepD_of {v:D} {K:D->Prop} (h:keepD v K):K v/\∀ {M:Mi} {im:Bool} {x:Value},Rd M im v x->Rd M true v x:=by
 unfold keepD at h;split at h
 ·rename_i hi;exact ⟨h,fun {M im x} hx=>Rd.immB hi hx⟩
 ·split at h
  ·split at h
   ·rename_i hl;refine ⟨h,fun {M im x} hx=>?_⟩;simp only [Rd] at hx ⊢;obtain ⟨cs,rfl,hx⟩:=hx;exact ⟨cs,rfl,RdL.immL hl hx⟩
   ·exact h.elim
  ·exact h.elim
def mputM (Γ:Ty) (st:St) (t:Nat) (m k v:D) (K:D->St->Prop) (no:Prop):Prop :=
 match m with
 | .mref j=>match st.sto j with
   | .mpd sk kn l=>mapTyM Γ t fun kt _ ks=>match Nat.beq kn ks.length,bEq sk (Γ.get kt).k.isStr with
     | true,true=>keyD sk k fun r=>match Nat.beq ks.length r.length with
       | true=>keepD v fun v=>st.on fun e_ s_ k_=>K .any ⟨e_,upd s_ j (.mpd sk kn (dput l r v)),k_⟩
       | false=>False
     | _,_=>False
   | _=>no
 | _=>no
theorem lookM_ok (H:TyOK P Γ) (R:RelM c nt M st a w) {t:Nat} {m k:D} {ok:Bool} {x y:Value} {K:D->St->Prop} {no:Prop} (h:lookM Γ st t m k ok K no) (hm:Rd M false m x) (hk:Rd M false k y) :
 no\/∃ d v,K d st/\Rd M false d v/\(Instr.lookup t x y ok).run P w = .ok v w:=by
 unfold lookM at h;split at h
 case h_2=>exact .inl h
 rename_i j;split at h
 case h_2=>exact .inl h
 rename_i sk kn l hj
 right
 obtain ⟨kt,et,ks,z,h1,hu,hf,ha,hz,hzr⟩:=mapTyM_of H h;clear h;split at h1
 case h_2=>exact h1.elim
 rename_i hkn hsk;have hkn:=nbq hkn;have hsk:=bEq_of hsk;obtain ⟨r,h,hv⟩:=keyD_of h1;clear h1;have hy:=hv hk;subst hy;split at h
 case h_2=>exact h.elim
 rename_i hr;have hr:=nbq hr;obtain ⟨o,ho,hK⟩:=h.ok;simp only [Rd] at hm;obtain ⟨_,hn,b,hρ,rfl⟩:=hm;have hb:=R.mem.box j hn;rw [hj] at hb;obtain ⟨b',g1,es,ck,g2,g3,g4,g5,_⟩:=hb;rw [hρ] at g1;cases g1;rw [R.h] at g2;have hof:=run_findKey_keys H hf ha hsk.symm r hr w es.toList l g3 (by rw [<-hkn];exact g5);have hc:=run_checkKey_flat H es.isEmpty 9994 6 kt ks hf (kis r) (okL_kis ha hr) w;rw [keyV_top hsk.symm] at hc;have hc:(Instr.checkKey es.isEmpty 10000 kt (keyV sk r)).run P w = .ok () w:=hc
 have hg:(getObj b).run P w = .ok (.map es ck) w:=by simp [getObj,Sem.run,g2]
 have hlen:es.toList.length=l.length:=by have:=congrArg List.length g3;simpa using this
 refine ⟨_,match ok with | true=>.tuple #[((fndE es.toList l r 0).map (·.2)).getD z,.bool (fndE es.toList l r 0).isSome] | false=>((fndE es.toList l r 0).map (·.2)).getD z,hK,?_,?_⟩
 ·have key:Rd M false (optZ (Γ.get et).zero o) (((fndE es.toList l r 0).map (·.2)).getD z)/\(fndE es.toList l r 0).isSome=o.isSome:=by
   cases hq:fndE es.toList l r 0 with
   | none =>
     have:=fndE_none hlen hq
     have ho' : o=none:=by rw [<-ho,dget,this];rfl
     subst ho';exact ⟨hzr M false,rfl⟩
   | some p =>
     obtain ⟨d,e,q1,_,q3,q4,q5⟩:=fndE_some hq
     have ho' : o=some d:=by rw [<-ho,dget,q1];rfl
     subst ho';refine ⟨?_,rfl⟩
     show Rd M false d p.2
     rw [q5];exact Rd.im _ _ _ (g4 _ e (r,d) q3 q4)
  cases ok with
  | false=>exact key.1
  | true =>
    simp only [lookO,Rd];refine ⟨_,rfl,?_⟩;rw [key.2];simp only [RdT];exact ⟨key.1,by simp [Rd],trivial⟩
 ·cases hq:fndE es.toList l r 0 with
  | none =>
    rw [hq] at hof
    cases ok<;>simp [Instr.lookup,run_underlying hu,hg,hc,hof,hz]
  | some p =>
    rw [hq] at hof
    cases ok<;>simp [Instr.lookup,run_underlying hu,hg,hc,hof]
theorem mputM_ok (H:TyOK P Γ) (R:RelM c nt M st a w) {t:Nat} {m k d:D} {x y z:Value} {K:D->St->Prop} {no:Prop} (h:mputM Γ st t m k d K no) (hm:Rd M false m x) (hk:Rd M false k y) (hd:Rd M false d z) :
 no\/∃ st' M' w',K .any st'/\RelM c nt M' st' a w'/\(Instr.mapUpdate t x y z).run P w = .ok () w':=by
 unfold mputM at h;split at h
 case h_2=>exact .inl h
 rename_i j;split at h
 case h_2=>exact .inl h
 rename_i sk kn l hj
 right
 obtain ⟨kt,et,ks,zz,h1,hu,hf,ha,_,_⟩:=mapTyM_of H h;clear h;split at h1
 case h_2=>exact h1.elim
 rename_i hkn hsk;have hkn:=nbq hkn;have hsk:=bEq_of hsk;obtain ⟨r,h,hv⟩:=keyD_of h1;clear h1;have hy:=hv hk;subst hy;split at h
 case h_2=>exact h.elim
 rename_i hr;have hr:=nbq hr;obtain ⟨hK,him⟩:=keepD_of h;clear h;have hdv:=him hd;simp only [Rd] at hm;obtain ⟨_,hn,b,hρ,rfl⟩:=hm;have hb:=R.mem.box j hn;rw [hj] at hb;obtain ⟨b',g1,es,ck,hm,g3,g4,g5,g6,g7⟩:=hb;rw [hρ] at g1;cases g1
 have g2:w.heap[b]? = some (.map es ck):=by rw [<-R.h];exact hm
 have hlt:=get?_lt hm
 have hdd:st.sto j≠.dead:=by rw [hj];simp
 have hof:=run_findKey_keys H hf ha hsk.symm r hr w es.toList l g3 (by rw [<-hkn];exact g5);have hc:=run_checkKey_flat H false 9994 6 kt ks hf (kis r) (okL_kis ha hr) w;rw [keyV_top hsk.symm] at hc;have hc:(Instr.checkKey false 10000 kt (keyV sk r)).run P w = .ok () w:=hc
 have hg:(getObj b).run P w = .ok (.map es ck) w:=by simp [getObj,Sem.run,g2]
 have hlen:es.toList.length=l.length:=by have:=congrArg List.length g3;simpa using this
 have hkk:sk=true\/∃ n,r = [n]:=by
  cases h:sk with
  | true=>exact .inl rfl
  | false =>
    rw [h] at hsk;obtain ⟨k,rfl,_,_⟩:=flat_one hf hsk.symm
    match r,hr with
    | [n],_=>exact .inr ⟨n,rfl⟩
 have fin:∀ es' ck',(Instr.mapUpdate t (.map (some b)) (keyV sk r) z).run P w = .ok () { w with heap:=w.heap.setIfInBounds b (.map es' ck') } ->
  es'.toList.map (·.key)=(dput l r d).map (fun x=>keyV sk x.1)->(∀ (i:Nat) e x,es'.toList[i]? = some e->(dput l r d)[i]? = some x->(e.val=z/\x.2=d)\/Rd M true x.2 e.val)->(∀ x ∈ dput l r d,x.1.length=kn) ->
  (es'.toList.map (·.born)).Nodup->(∀ x ∈ es'.toList,x.born<ck') ->
  ∃ st' M' w',K .any st'/\RelM c nt M' st' a w'/\(Instr.mapUpdate t (.map (some b)) (keyV sk r) z).run P w = .ok () w':=fun es' ck' hrun e1 e2 e3 e4 e5=>by
  have hne:¬ M.S b:=R.mem.sep j b hdd hρ
  have hle:M.Le { M with h:=M.h.setIfInBounds b (.map es' ck') } true:=⟨fun _ h=>h,fun b' hb'=>by
   have:b≠b':=fun e=>by subst e;exact hne hb'
   rw [Array.getElem?_setIfInBounds_ne this],by simp,by simp,by simp,by simp⟩
  have key:=R.mem.set hdd hρ (M.h.setIfInBounds b (.map es' ck')) (by simp) (fun k hk=>by
   rw [Array.getElem?_setIfInBounds_ne (Ne.symm hk)]) (.mpd sk kn (dput l r d)) ⟨b,hρ,es',ck',by simp [hlt],e1,fun i e x he hx=>by
    rcases e2 i e x he hx with ⟨q1,q2⟩ | q
    ·rw [q1,q2];exact Rd.mono hle _ _ hdv
    ·exact Rd.mono hle _ _ q,e3,e4,e5⟩
  obtain ⟨m,le⟩:=key (by rw [hj];rfl);exact ⟨_,_,{ w with heap:=w.heap.setIfInBounds b (.map es' ck') },hK,R.go le m (by simp only [R.h]) R.nx rfl rfl rfl,hrun⟩
 have hrl:r.length=kn:=by rw [hkn,<-hr]
 cases hq:fndE es.toList l r 0 with
 | none =>
   rw [hq] at hof;have hnone:=fndE_none hlen hq
   have hdp:dput l r d=l ++ [(r,d)]:=by rw [dput,hnone]
   refine fin (es.push { key:=keyV sk r,val:=z,born:=ck }) (ck+1) ?_ ?_ ?_ ?_ ?_ ?_
   ·simp only [Instr.mapUpdate,Sem.run_bind,run_underlying hu,hg,hc,hof,Result.andThen_ok];simp [setObj,Sem.run,g2]
   ·rw [hdp];simp only [Array.toList_push,List.map_append,List.map_cons,List.map_nil,g3]
   ·rw [hdp];intro i e x he hx;rw [Array.toList_push] at he;by_cases hi:i<l.length
    ·rw [List.getElem?_append_left (by omega)] at he;rw [List.getElem?_append_left hi] at hx;exact .inr (g4 i e x he hx)
    ·rw [List.getElem?_append_right (by omega)] at he;rw [List.getElem?_append_right (by omega)] at hx;rw [hlen] at he
     cases hj:i - l.length with
     | zero=>rw [hj] at he hx;simp at he hx;subst he;subst hx;exact .inl ⟨rfl,rfl⟩
     | succ n=>rw [hj] at he;simp at he
   ·rw [hdp];intro x hx
    rcases List.mem_append.1 hx with hx | hx
    ·exact g5 x hx
    ·rw [List.mem_singleton.1 hx];exact hrl
   ·simp only [Array.toList_push,List.map_append,List.map_cons,List.map_nil];rw [List.nodup_append];refine ⟨g6,by simp,fun a ha b hb=>?_⟩;obtain ⟨y,hy,rfl⟩:=List.mem_map.1 ha;have:=g7 y hy;simp only [List.mem_singleton] at hb;omega
   ·intro y hy;simp only [Array.toList_push,List.mem_append,List.mem_singleton] at hy
    rcases hy with hy | rfl
    ·have:=g7 y hy;omega
    ·exact Nat.lt_succ_self _
 | some p =>
   rw [hq] at hof;obtain ⟨d0,e0,q1,_,q3,q4,q5⟩:=fndE_some hq;rw [Nat.sub_zero] at q3 q4
   have hdp:dput l r d=l.modify p.1 fun _=>(r,d):=by rw [dput,q1]
   have hkey0:e0.key=keyV sk r:=by
    have h1:=congrArg (·[p.1]?) g3;simp only [List.getElem?_map,q3,q4,Option.map_some,Option.some.injEq] at h1;exact h1
   have hkey:((es[p.1]?).map (·.key)).getD (keyV sk r)=keyV sk r:=by
    rw [<-Array.getElem?_toList,q3];exact hkey0
   have hbm:(es.modify p.1 fun e'=>{ e' with key:=keyV sk r,val:=z }).toList.map (·.born)=es.toList.map (·.born):=by
    apply List.ext_getElem?;intro j;simp only [List.getElem?_map,Array.getElem?_toList,Array.getElem?_modify];by_cases hj:p.1=j
    ·subst hj;simp only [if_true]
     cases es[p.1]?<;>rfl
    ·simp only [hj,if_false]
   refine fin (es.modify p.1 fun e'=>{ e' with key:=keyV sk r,val:=z }) ck ?_ ?_ ?_ ?_ (by rw [hbm];exact g6) ?_
   ·simp only [Instr.mapUpdate,Sem.run_bind,run_underlying hu,hg,hc,hof,Result.andThen_ok,hkey,Instr.keyThatStays,sameBits_key _ _ hkk];simp [setObj,Sem.run,g2]
   ·rw [hdp];apply List.ext_getElem?;intro j;have h1:=congrArg (·[j]?) g3;simp only [List.getElem?_map,Array.getElem?_toList] at h1;simp only [List.getElem?_map,Array.getElem?_toList,Array.getElem?_modify,List.getElem?_modify];by_cases hj:p.1=j
    ·subst hj;rw [Array.getElem?_toList] at q3;simp [q3,q4]
    ·simp only [hj,if_false];refine h1.trans ?_
     cases l[j]?<;>rfl
   ·rw [hdp];intro i e x he hx;rw [Array.getElem?_toList,Array.getElem?_modify] at he;rw [List.getElem?_modify] at hx;by_cases hj:p.1=i
    ·subst hj;rw [Array.getElem?_toList] at q3;simp only [if_true,q3,Option.map_some,Option.some.injEq] at he;simp only [if_true,q4] at hx;simp at hx;subst he;subst hx;exact .inl ⟨rfl,rfl⟩
    ·simp only [hj,if_false] at he hx;refine .inr (g4 i e x (by rw [Array.getElem?_toList];exact he) ?_)
     cases hl:l[i]? with
     | none=>rw [hl] at hx;simp at hx
     | some y=>rw [hl] at hx;simpa using hx
   ·rw [hdp];intro x hx;obtain ⟨i,hi⟩:=List.mem_iff_getElem?.1 hx;rw [List.getElem?_modify] at hi;by_cases hj:p.1=i
    ·subst hj;simp only [if_true,q4] at hi;simp at hi;subst hi;exact hrl
    ·simp only [hj,if_false] at hi
     cases hl:l[i]? with
     | none=>rw [hl] at hi;simp at hi
     | some y =>
       rw [hl] at hi;simp at hi;subst hi;exact g5 _ (List.mem_of_getElem? hl)
   ·intro y hy
    have hy2:y.born ∈ es.toList.map (·.born):=by rw [<-hbm];exact List.mem_map_of_mem hy
    obtain ⟨u,hu1,hu2⟩:=List.mem_map.1 hy2;rw [<-hu2];exact g7 u hu1
theorem RelM.mpd (R:RelM c nt M st a w) (sk:Bool) (kn:Nat):∃ M',RelM c nt M' ⟨st.env,upd st.sto st.nxt (.mpd sk kn []),st.nxt+1⟩ a (w.alloc (.map #[] 0))/\Rd M' false (.mref st.nxt) (.map (some w.heap.size)):=by
 have hsz:M.h.size=w.heap.size:=by rw [R.h]
 obtain ⟨hm,hle⟩:=R.mem.new (.map #[] 0) (.pointer none) (.mpd sk kn []) ⟨M.h.size,by simp [Mi.give,upd_self],#[],0,by simp [Mi.give],rfl,by simp,by simp,by simp,by simp⟩;refine ⟨_,R.go hle (by rw [<-R.nx];exact hm) (by simp only [Mi.give,R.h];rfl) (by simp [Mi.give,R.nx]) rfl rfl rfl,?_⟩;simp only [Rd,Mi.give,<-R.nx];exact ⟨trivial,Nat.lt_succ_self _,w.heap.size,by rw [upd_self,hsz],rfl⟩
def cut3D (Γ:Ty) (st:St) (t:Nat) (a:D) (hi mx:D) (K:D->St->Prop):Prop :=
 match (Γ.get t).k with
 | .slice e=>match a with
   | .tab sz n f=>match szB Γ e sz with
     | true=>match hi,mx with
       | .int _ h,.int _ m=>Vc (h=m/\1<=h/\h<=n) (st.on fun e_ s_ k_=>K (.own k_) ⟨e_,upd s_ k_ (.sar e sz h.toNat f),k_+1⟩)| _,_=>False
     | false=>False
   | _=>False
 | _=>False
theorem cut3D_ok (H:TyOK P Γ) (R:RelM c nt M st a w) {t:Nat} {s hi mx:D} {v y z:Value} {K:D->St->Prop} (h:cut3D Γ st t s hi mx K) (hv:Rd M false s v) (hy:Rd M false hi y) (hz:Rd M false mx z) :
 ∃ d st' v' M',K d st'/\RelM c nt M' st' a w/\Rd M' false d v'/\(Instr.sliceAt t v none (some y) (some z)).run P w = .ok v' w:=by
 unfold cut3D at h;split at h
 case h_2=>exact h.elim
 rename_i e hk;obtain ⟨i,d,zz,hi',hu,_,_,_,_,_,hkc⟩:=H.ok hk (by simp)
 cases d<;>simp only [kchk,bft] at hkc
 have hkc:=by simpa using hkc
 subst hkc;split at h
 case h_2=>exact h.elim
 rename_i sz n f;split at h
 case h_2=>exact h.elim
 rename_i hs;obtain ⟨_,_,j,hj,hjs⟩:=szB_of H hs;split at h
 case h_2=>exact h.elim
 rename_i k1 hh k2 m;obtain ⟨⟨rfl,h1,h2⟩,h⟩:=h;simp only [Rd] at hv hy hz;subst hy hz;obtain ⟨ad,cap,rfl,hn,hel⟩:=hv;have e1:((hh.toNat:Nat):Int)=hh:=Int.toNat_of_nonneg (by omega);have hb:=run_bounds3 (P:=P) (lo:=none) (hi:=some (.int k1 hh)) (mx:=some (.int k2 hh)) (xl:=none) (xh:=some (.int k1 hh)) (xm:=some (.int k2 hh)) (len:=n) (cap:=cap) (l:=0) (h:=hh) (m:=hh) (.inl ⟨rfl,rfl,rfl⟩) (.inr ⟨k1,rfl,rfl⟩) (.inr ⟨k2,rfl,rfl⟩) (by omega) (by omega) (by omega) (by omega) (.inr (by simp)) w
 have hrun:(Instr.sliceAt t (.slice ad n cap) none (some (.int k1 hh)) (some (.int k2 hh))).run P w = .ok (.slice ad hh.toNat hh.toNat) w:=by
  simp only [Instr.sliceAt,Sem.run_bind,run_underlying hu,Result.andThen_ok,Instr.slice,hb,Sem.run_pure,run_sizeOf hj,hjs]
  have e2:¬ hh.toNat=(0:Int).toNat:=by omega
  simp only [Int.toNat_zero,Nat.zero_mul,Nat.sub_zero]
  cases ad with
  | none=>simp| some p=>simp [Addr.add]
 have hle:=M.give_le none (.slice ad hh.toNat hh.toNat) false
 have hrd:Rd M true (.tab sz hh.toNat f) (.slice ad hh.toNat hh.toNat):=by
  simp only [Rd];exact ⟨ad,_,rfl,Nat.le_refl _,fun i hi=>hel i (by omega)⟩
 have hm1:=R.mem.adopt none (.slice ad hh.toNat hh.toNat) (.sar e sz hh.toNat f) (.inr ⟨by simp [Mi.give,upd_self],⟨ad,by simp [Mi.give,upd_self]⟩,by
  have:=Rd.mono hle.im _ _ hrd
  simpa [Mi.give,upd_self] using this⟩) nofun nofun nofun
 refine ⟨_,_,.slice ad hh.toNat hh.toNat,_,h,R.go hle (by rw [<-R.nx];exact hm1) (by simp only [Mi.give,R.h]) (by simp [Mi.give,R.nx]) rfl rfl rfl,?_,hrun⟩;simp only [Rd,Mi.give,<-R.nx,upd_self];exact ⟨trivial,Nat.lt_succ_self _,trivial,ad,hh.toNat,hh.toNat,rfl⟩
def ImpD (d e:D):Prop:=∀ (M:Mi) (v:Value),Rd M true d v->Rd M true e v
theorem ImpD.refl (d:D):ImpD d d:=fun _ _ h=>h
def MpdLe (l l' : List (List Int × D)):Prop:=l.length=l'.length/\∀ (i:Nat) x y,l[i]? = some x->l'[i]? = some y->x.1=y.1/\ImpD x.2 y.2
theorem MpdLe.refl (l:List (List Int × D)):MpdLe l l:=⟨rfl,fun i x y h1 h2=>by rw [h1] at h2;cases h2;exact ⟨rfl,.refl _⟩⟩
theorem MpdLe.of_eq {l l' : List (List Int × D)} (h:l=l'):MpdLe l l':=h ▸ .refl l
theorem mpdOK.le {sk:Bool} {kn:Nat} {o:Option Obj} {l l' : List (List Int × D)} (h:mpdOK M sk kn o l) (hl:MpdLe l l'):mpdOK M sk kn o l':=by
 obtain ⟨es,ck,h1,h2,h3,h4,h5⟩:=h;refine ⟨es,ck,h1,?_,fun i e y he hy=>?_,fun y hy=>?_,h5⟩
 ·rw [h2];apply List.ext_getElem?;intro i;rw [List.getElem?_map,List.getElem?_map];by_cases hi:i<l.length
  ·have e1:l[i]? = some l[i]:=List.getElem?_eq_getElem hi;have e2:l'[i]? = some (l'[i]'(by rw [<-hl.1];exact hi)):=List.getElem?_eq_getElem _;rw [e1,e2,Option.map_some,Option.map_some,(hl.2 i _ _ e1 e2).1]
  ·rw [List.getElem?_eq_none (by omega),List.getElem?_eq_none (by rw [<-hl.1];omega)]
 ·have hi:i<l.length:=by rw [hl.1];exact (List.getElem?_eq_some_iff.1 hy).1
  have e1:l[i]? = some l[i]:=List.getElem?_eq_getElem hi;exact (hl.2 i _ y e1 hy).2 M _ (h3 i e _ he e1)
 ·obtain ⟨i,hi⟩:=List.mem_iff_getElem?.1 hy
  have hil:i<l.length:=by rw [hl.1];exact (List.getElem?_eq_some_iff.1 hi).1
  have e1:l[i]? = some l[i]:=List.getElem?_eq_getElem hil;rw [<-(hl.2 i _ y e1 hi).1];exact h4 _ (List.getElem_mem hil)
def mputF (Γ:Ty) (st:St) (t:Nat) (m k v:D) (K:D->St->Prop) (no:Prop):Prop :=
 match v with
 | .own q=>match st.sto q with
   | .arr _ sz n f=>st.on fun e_ s_ k_=>mputM Γ ⟨fun t=>D.sub q (.tab sz n f) (e_ t),upd (fun j=>(s_ j).sub q (.tab sz n f)) q .dead,k_⟩ t (D.sub q (.tab sz n f) m) (D.sub q (.tab sz n f) k) (.tab sz n f) K False
   | _=>no
 | _=>no
theorem mputF_ok (H:TyOK P Γ) (R:RelM c nt M st a w) {t:Nat} {m k d:D} {x y z:Value} {K:D->St->Prop} {no:Prop} (h:mputF Γ st t m k d K no) (hm:Rd M false m x) (hk:Rd M false k y) (hd:Rd M false d z) :
 no\/∃ st' M' w',K .any st'/\RelM c nt M' st' a w'/\(Instr.mapUpdate t x y z).run P w = .ok () w':=by
 unfold mputF at h;split at h
 case h_2=>exact .inl h
 rename_i q;split at h
 case h_2=>exact .inl h
 rename_i e sz n f hs
 right
 obtain ⟨M1,R1,ho,hsub⟩:=R.freeze (.inl hs);exact (mputM_ok H R1 h (hsub _ _ hm) (hsub _ _ hk) (ho _ hd)).elim False.elim id
end
end Sx
namespace Sx
open Go
section
variable {P:Program} {Γ:Ty} {c:Cx P} {nt:Nt} {M:Mi} {st:St} {a:Act} {w:World}
def mapSnd:List (Nat × Operand)->List Operand
 | []=>[]| (_,x) :: l=>x :: mapSnd l
def bldB (Γ:Ty) (t:Nat):Bool :=
 match (Γ.get t).k,(Γ.get t).zero with
 | .struct [(0,1,p),(1,1,_)],.agg [.null,.nil]=>match (Γ.get p).k with
   | .ptr t'=>Nat.beq t' t| _=>false
 | _,_=>false
def hotQ (Γ:Ty) (sto:Nat->Box) (t n sz i off:Nat) (x:D) (K:Nat->Nat->(Nat->List D)->Prop) (L:Prop):Prop :=
 match x with
 | .own r=>match sto r with
   | .arr e' _ _ _=>match (Γ.get e').k with
     | .int _=>match Nat.beq sz 1,Nat.beq off 0,szB Γ t 1 with
       | true,true,true=>match sto n with
         | .arr e sz' k f=>match Nat.beq sz' 1 with
           | true=>Vc (i<k) (K e k f)| false=>L
         | .hot e k f i' _=>Vc (i<k/\i=i') (K e k f)| _=>L
       | _,_,_=>L
     | _=>L
   | _=>L
 | _=>L
theorem hotQ_of {Pc:Program} {c:Cx Pc} {M:Mi} {sto:Nat->Box} (HM:Mem c M sto) {t n sz i off:Nat} {x:D} {K:Nat->Nat->(Nat->List D)->Prop} {L:Prop} (hn:n<M.nx) (h:hotQ Γ sto t n sz i off x K L) :
 L\/∃ r e k f,x = .own r/\sto n≠.dead/\(sto n).isFam=false/\BoxOK M n (.hot e k f i .any)/\i<k/\sz=1/\off=0/\szB Γ t 1=true/\K e k f:=by
 unfold hotQ at h;split at h
 case h_2=>exact .inl h
 rename_i r;split at h
 case h_2=>exact .inl h
 split at h
 case h_2=>exact .inl h
 split at h
 case h_2=>exact .inl h
 rename_i h1 h2 h4;have h1:=nbq h1;have h2:=nbq h2;subst h1 h2;have hb:=HM.box n hn
 have any:∀ (xs:List Value) (k:Nat),xs.length=k*1->i<k->(∀ u ∈ xs,u.oneCell' = true)->RdL M false [.any] ((xs.drop (i*1)).take 1):=fun xs k hl hi h1=>by
  have hlt:i<xs.length:=by omega
  have e:(xs.drop (i*1)).take 1 = [xs[i]]:=by
   rw [Nat.mul_one,List.drop_eq_getElem_cons hlt];rfl
  rw [e];simp only [RdL,Rd];exact ⟨h1 _ (List.getElem_mem hlt),trivial,trivial⟩
 split at h
 ·rename_i e sz' k f hs;split at h
  case h_2=>exact .inl h
  rename_i h3;have h3:=nbq h3;subst h3;rw [hs] at hb;obtain ⟨xs,o1,o2,o3,o4⟩:=hb;exact .inr ⟨r,e,k,f,rfl,by rw [hs];simp,by rw [hs];rfl,⟨xs,o1,o2,fun j hj _=>o3 j hj,fun _=>any xs k o1.1 h.vc o4,o4⟩,h.vc,rfl,rfl,h4,h.k⟩
 ·rename_i e k f i' d hs;rw [hs] at hb;obtain ⟨xs,o1,o2,o3,o4,o5⟩:=hb;obtain ⟨⟨hi,rfl⟩,h⟩:=h;exact .inr ⟨r,e,k,f,rfl,by rw [hs];simp,by rw [hs];rfl,⟨xs,o1,o2,o3,fun _=>any xs k o1.1 hi o5,o5⟩,hi,rfl,rfl,h4,h⟩
 ·exact .inl h
theorem hot_ok (H:TyOK P Γ) (R:RelM c nt M st a w) {t n i e k:Nat} {f:Nat->List D} {d:D} {x v:Value} (hs:st.sto n≠.dead) (hX:(st.sto n).isFam=false) (hb:BoxOK M n (.hot e k f i .any)) (hsz:szB Γ t 1=true) (hp:Rd M false (.pel n 1 i 0) x) (hv:Rd M false d v) (hc:d.cell=true) (hi:i<k) :
 ∃ M' w',RelM c nt M' ⟨st.env,upd st.sto n (.hot e k f i d),st.nxt⟩ a w'/\(Instr.storeAt t x v).run P w = .ok () w':=by
 simp only [Rd] at hp;obtain ⟨_,hn,b,hρ,rfl⟩:=hp;obtain ⟨xs,o1,o2,o3,_,o4⟩:=hb;obtain ⟨v1,v2⟩:=hv.cell hc
 rcases o1.2 with ⟨hnil,hn0⟩ | ⟨g,cap,cur,hg,hblk,hnc,hcm,hcs,ht⟩
 ·omega
 rw [hρ,hg] at o2;simp only [Value.ownBlock,Option.some.injEq] at o2;subst o2
 have hw:w.heap[b]? = some (.cells cur e (0,0)):=by rw [<-R.h];exact hblk
 have hcl:cur.toList.length=cap*1:=by simpa using hcs
 have hxl:=o1.1
 obtain ⟨M',R'⟩:=R.store hs hX hρ (cs:=(setV cur.toList (i*1+0) v.cells.toList).toArray) hblk (bx:=.hot e k f i d) fun M' hle hρ' hv' hb'=>by
  have get:∀ j,j<k->((((setV cur.toList (i*1+0) v.cells.toList).take (k*1)).drop (j*1)).take 1)=if j=i then [v] else (xs.drop (j*1)).take 1:=fun j hj=>by
   apply List.ext_getElem?;intro q;by_cases hq:q<1
   ·obtain rfl:q=0:=by omega
    rw [List.getElem?_take,if_pos (by omega),List.getElem?_drop,List.getElem?_take,if_pos (by omega),get_setV _ _ _ _ (by omega),v2];by_cases e0:j=i
    ·subst e0;rw [if_pos (by simp),if_pos rfl];simp
    ·rw [if_neg (by simp;omega),if_neg e0,List.getElem?_take,if_pos (by omega),List.getElem?_drop,<-ht,List.getElem?_take,if_pos (by omega)]
   ·rw [List.getElem?_eq_none (by simp;omega)];by_cases e0:j=i
    ·rw [if_pos e0,List.getElem?_eq_none (by simp;omega)]
    ·rw [if_neg e0,List.getElem?_eq_none (by simp;omega)]
  refine ⟨(setV cur.toList (i*1+0) v.cells.toList).take (k*1),⟨by rw [List.length_take,length_setV];omega,.inr ⟨b,cap,_,by rw [hv'];exact hg,hb',hnc,hcm,by simp [length_setV,hcs],by simp⟩⟩,by rw [hρ',hv',hg];rfl,fun j hj hne=>?_,fun hi=>?_,fun u hu=>?_⟩
  ·rw [get j hj,if_neg (by omega)];exact RdL.mono hle.im _ _ (o3 j hj hne)
  ·rw [get i hi,if_pos rfl];simp only [RdL];exact ⟨v1,Rd.mono hle _ _ hv,trivial⟩
  ·obtain ⟨q,hq⟩:=List.mem_iff_getElem?.1 hu
   have hqk:q<k*1:=by
    have:=(List.getElem?_eq_some_iff.1 hq).1;rw [List.length_take] at this;omega
   rw [List.getElem?_take,if_pos hqk,get_setV _ _ _ _ (by omega),v2] at hq;by_cases hin:i*1+0<=q/\q<i*1+0 + [v].length
   ·rw [if_pos hin] at hq;have:=List.mem_of_getElem? hq;simp only [List.mem_singleton] at this;rw [this];exact v1
   ·rw [if_neg hin] at hq;refine o4 u ?_;rw [<-ht];refine List.mem_of_getElem? (i:=q) ?_;rw [List.getElem?_take,if_pos hqk];exact hq
 rw [show Sx.hoff (M.hv n)=0 by rw [hg];rfl,Nat.zero_add];exact ⟨M',_,R',run_storeAt H hsz w b (i*1+0) cur e hw v (by rw [v2];rfl) (by rw [v2];simp;omega) (by rw [v2];simpa using v1)⟩
def heavyW (P:Program) (Γ:Ty) (ty:Nat) (o:Op) (st:St) (K:D->St->Prop):Prop :=
 match o with
 | .box _ x=>D.force (evD st.env x) fun d=>boxD d fun bx=>st.on fun e_ s_ k_=>K (.loc k_ 0) ⟨e_,upd s_ k_ bx,k_+1⟩
 | .alloc t=>match bldB Γ t with
   | true=>st.on fun e_ s_ k_=>K (.loc k_ 0) ⟨e_,upd s_ k_ (.bld t false .nil),k_+1⟩
   | false=>match szB Γ t (Γ.get t).size with
   | true=>D.force (Γ.get t).zero fun d=>boxD d fun bx=>st.on fun e_ s_ k_=>K (.loc k_ 0) ⟨e_,upd s_ k_ bx,k_+1⟩
   | false=>False
 | .load t a=>match evD st.env a with
   | .pel n sz i off=>famLd Γ st t n sz i off K (pureW Γ st.sto st.env o fun d=>K d st)
   | _=>pureW Γ st.sto st.env o fun d=>K d st
 | .store t a x=>match evD st.env a with
   | .pel n sz i off=>famSt Γ st t n sz i off (evD st.env x) (fun st=>K .any st) <| hotQ Γ st.sto t n sz i off (evD st.env x) (fun e k f=>st.on fun e_ s_ k_=>K .any ⟨e_,upd s_ n (.hot e k f i (evD e_ x)),k_⟩)
    (frzN (ownsD 3 (evD st.env x) []) st fun st=>storeD Γ st t (evD st.env a) (evD st.env x) fun st=>K .any st)
   | _=>storeD Γ st t (evD st.env a) (evD st.env x) fun st=>K .any st
 | .makeSlice t l m=>makeD Γ st t (evD st.env l) (evD st.env m) K
 | .buildSlice t n ps=>match seqN 0 ps.toList with
   | true=>famLit Γ st t n (mapEv st.env (mapSnd ps.toList)) K <| frzN (ownsD.go 3 (mapEv st.env (mapSnd ps.toList)) []) st fun st=>litD Γ st t n (mapEv st.env (mapSnd ps.toList)) K
   | false=>False
 | .call ⟨.builtin .append,args,tys⟩=>match args.toList,tys.toList with
   | [s,x],[t,t']=>match Nat.beq t t' with
     | true=>match evD st.env s with
       | .own n=>famApp Γ st t n (evD st.env x) K (appendD Γ st t (.own n) (evD st.env x) K)| _=>appendD Γ st t (evD st.env s) (evD st.env x) K
     | false=>match evD st.env x with
       | .str u=>appsD Γ st t t' (evD st.env s) (.str u) K| _=>appzD Γ st t t' (evD st.env s) (evD st.env x) K
   | _,_=>False
 | .call ⟨.builtin .clear,args,tys⟩=>match args.toList,tys.toList with
   | [s],[t]=>rclrD Γ st t (evD st.env s) K| _,_=>False
 | .convert s d x=>match (Γ.get s).k with
   | .slice _=>bconvD Γ st s d (evD st.env x) K
   | _=>pureW Γ st.sto st.env o fun d=>K d st
 | .call ⟨.builtin .unsafeSliceData,args,tys⟩=>match args.toList,tys.toList with
   | [x],[_]=>sdataD Γ st ty (evD st.env x) K| _,_=>False
 | .call ⟨.builtin .unsafeString,args,tys⟩=>match args.toList,tys.toList with
   | [x,n],[pt,_]=>ustrD Γ st pt (evD st.env x) (evD st.env n) K| _,_=>False
 | .call ⟨.builtin .cap,args,tys⟩=>match args.toList,tys.toList with
   | [s],[t]=>capD Γ t (evD st.env s) fun d=>K d st
   | _,_=>False
 | .slice t x lo hi mx=>match evD st.env x with
   | .own m=>match mx with
     | none=>match lo with
       | none=>match hi with
         | some h=>famShr Γ st t m (evD st.env h) K (shrinkD Γ st t m (evD st.env h) K)| none=>cutD Γ st t m none none K
       | some l=>cutD Γ st t m (some (evD st.env l)) (hi.map (evD st.env)) K
     | some _=>False
   | .tab sz n f=>match mx,lo,hi with
     | some m,none,some h=>cut3D Γ st t (.tab sz n f) (evD st.env h) (evD st.env m) K
     | _,_,_=>pureW Γ st.sto st.env o fun d=>K d st
   | _=>pureW Γ st.sto st.env o fun d=>K d st
 | .call ⟨.value f,args,_⟩=>match evD st.env f with
   | .fn g caps=>forceL (mapEv st.env args.toList ++ caps) fun l=>callD P g l st K
   | _=>False
 | .makeMap t n=>match n,(Γ.get t).k with
   | none,.map kt et=>match (Γ.get et).k.isD with
     | true=>st.on fun e_ s_ k_=>K (.mref k_) ⟨e_,upd s_ k_ (.mpd (Γ.get kt).k.isStr (keyN Γ kt) []),k_+1⟩
     | false=>st.on fun e_ s_ k_=>K (.mref k_) ⟨e_,upd s_ k_ (.mp ⟨(Γ.get kt).k.isStr,(Γ.get et).k.isB,[]⟩),k_+1⟩
   | _,_=>False
 | .lookup t m k ok=>lookM Γ st t (evD st.env m) (evD st.env k) ok K <| lookE Γ st t (evD st.env m) (evD st.env k) ok K <| lookD Γ st t (evD st.env m) (evD st.env k) ok K| .mapUpdate t m k x=>mputF Γ st t (evD st.env m) (evD st.env k) (evD st.env x) K <| mputM Γ st t (evD st.env m) (evD st.env k) (evD st.env x) K <| mputD Γ st t (evD st.env m) (evD st.env k) (evD st.env x) K
 | o=>pureW Γ st.sto st.env o fun d=>K d st
theorem RdT.append {im:Bool}:∀ {l l' : List D} {vs vs' : List Value},RdT M im l vs->RdT M im l' vs'->RdT M im (l ++ l') (vs ++ vs')
 | [],l',[],vs',_,h'=>by simpa using h'
 | d :: l,l',v :: vs,vs',h,h'=>by
   simp only [RdT,List.cons_append] at h ⊢;exact ⟨h.1,RdT.append h.2 h'⟩
 | [],_,_ :: _,_,h,_=>by simp [RdT] at h
 | _ :: _,_,[],_,h,_=>by simp [RdT] at h
theorem RdL.toT {im:Bool}:∀ {l:List D} {vs:List Value},RdL M im l vs->RdT M im l vs
 | [],[],_=>by simp [RdT]
 | d :: l,v :: vs,h=>by
   simp only [RdL] at h;simp only [RdT];exact ⟨h.2.1,RdL.toT h.2.2⟩
 | [],_ :: _,h=>by simp [RdL] at h
 | _ :: _,[],h=>by simp [RdL] at h
theorem seqN_of:∀ (k:Nat) (l:List (Nat × Operand)) (f:Operand->Value),seqN k l=true->(l.map fun (i,x)=>(i,f x))=(((mapSnd l).map f).zipIdx k).map fun x=>(x.2,x.1)
 | k,[],f,_=>by simp [mapSnd]
 | k,(i,x) :: l,f,h=>by
   simp only [seqN] at h;split at h
   ·rename_i hi;have hi:=nbq hi;subst hi;simp only [mapSnd,List.map_cons,List.zipIdx_cons];rw [seqN_of (i+1) l f h]
   ·cases h
theorem Oper.wp_value {o:Oper} {K:Act->World->Prop} {Q:Exit->Act->World->Prop} {v:Value} {w' : World} (h:(execOp a.eval o).run P w = .ok (.value v) w') (hk:K (a.put o.dst v) w'):o.wp P a w K Q:=by
 unfold Oper.wp;rw [h];exact hk
theorem Oper.wp_skip {o:Oper} {K:Act->World->Prop} {Q:Exit->Act->World->Prop} {w' : World} (h:(execOp a.eval o).run P w = .ok .skip w') (hk:K (a.put o.dst undef) w'):o.wp P a w K Q:=by
 unfold Oper.wp;rw [h];exact hk
theorem heavyW_ok (H:TyOK P Γ) (R:RelM c nt M st a w) (o:Oper) {K:D->St->Prop} {next:Act->World->Prop} {Q:Exit->Act->World->Prop} (h:heavyW P Γ o.type o.op st K)
 (hn:∀ d st' v M' w',K d st'->RelM c nt M' st' a w'->Rd M' false d v->next (a.put o.dst v) w'):o.wp P a w next Q:=by
 have ev:=fun x=>evD_rd (M:=M) (env:=st.env) (a:=a) R.env x
 have hpure:pureW Γ st.sto st.env o.op (fun d=>K d st)->o.wp P a w next Q:=fun h=>by
  obtain ⟨d,v,hk,hr,hrun⟩:=pureW_ok (Kp:=fun w'=>w' = w) H R.mem R.env o (fun _ w' hw=>by rw [hw];exact R.keep) h;exact Oper.wp_value (hrun w rfl) (hn d st v M w hk R hr)
 have hbox:∀ (d:D) (v:Value) (ty:Nat),Rd M false d v->boxD d (fun bx=>K (.loc st.nxt 0) ⟨st.env,upd st.sto st.nxt bx,st.nxt+1⟩)->(execOp a.eval o).run P w = .ok (.value (.pointer (some ⟨w.heap.size,0,none⟩))) (w.alloc (.cells v.cells ty))->o.wp P a w next Q:=fun d v ty hv h hrun=>by
  obtain ⟨bx,hk,_,hb⟩:=boxD_of h hv;obtain ⟨M',R',hr,_⟩:=R.box (v:=v) ty (fun M' n b=>hb M' n b ty);exact Oper.wp_value hrun (hn _ _ _ M' _ hk R' hr)
 unfold heavyW at h;split at h
 ·rename_i t x ho;rw [force_eq] at h;exact hbox _ (a.eval x) t (ev x) h (by simp [execOp,ho,Instr.box,newVar,newRow])
 ·rename_i t ho;split at h
  ·rename_i hbl;unfold bldB at hbl;split at hbl
   case h_2=>cases hbl
   rename_i hk hzr;obtain ⟨ie,de,ze,hie,_,_,_,hze,_,hzk,_⟩:=H.ok hk (by simp);have hzd:=zchk_rd (M:=M) (im:=false) hzk;rw [hzr] at hzd;simp only [Rd] at hzd;obtain ⟨cs,rfl,hcs⟩:=hzd
   obtain ⟨x,y,hxy⟩:∃ x y,cs = #[x,y]:=by
    have:=hcs.length
    match cs,this with
    | ⟨[x,y]⟩,_=>exact ⟨x,y,rfl⟩
   subst hxy;simp only [RdL,Rd] at hcs;obtain ⟨_,rfl,_,rfl,_⟩:=hcs;obtain ⟨M',R',hr,_⟩:=R.box (v:=.agg #[.pointer none,.slice none 0 0]) (bx:=.bld t false .nil) t (fun M' n b hle hρ hb=>⟨b,.slice none 0 0,hρ,hb,rfl,rfl⟩);refine Oper.wp_value (v:=.pointer (some ⟨w.heap.size,0,none⟩)) ?_ (hn _ _ _ M' _ h R' hr)
   have hz:(zeroValue t).run P w = .ok (.agg #[.pointer none,.slice none 0 0]) w:=by simp [zeroValue,typeInfo,hie,hze]
   simp [execOp,ho,Instr.alloc,hz,newVar,newRow]
  split at h
  ·rename_i hs;obtain ⟨_,hne,_⟩:=szB_of H hs
   rcases H t with hbad | hok
   ·exact absurd hbad.2 hne
   ·obtain ⟨ie,de,ze,hie,_,_,_,hze,_,hzk,_⟩:=hok.ex;rw [force_eq] at h;refine hbox _ ze t (zchk_rd hzk) h ?_
    have hz:(zeroValue t).run P w = .ok ze w:=by simp [zeroValue,typeInfo,hie,hze]
    simp [execOp,ho,Instr.alloc,hz,newVar,newRow]
  ·exact h.elim
 ·rename_i t x ho;split at h
  ·rename_i n sz i off hp;have h1:=evD_rd (M:=M) (a:=a) R.env x;rw [hp] at h1
   rcases famLd_ok H R h h1 with h | ⟨d,st',v,M',hk,R',hr,hrun⟩
   ·exact hpure h
   ·exact Oper.wp_value (by simp [execOp,ho,hrun]) (hn _ _ _ M' _ hk R' hr)
  ·exact hpure h
 ·rename_i t p x ho
  have go:∀ (st1:St) (M1:Mi),RelM c nt M1 st1 a w->(storeD Γ st1 t (evD st1.env p) (evD st1.env x) fun st=>K .any st)->o.wp P a w next Q:=fun st1 M1 R1 h=>by
   obtain ⟨st',M',w',hk,R',hrun⟩:=storeD_ok H R1 h (evD_rd (a:=a) R1.env p) (evD_rd (a:=a) R1.env x);exact Oper.wp_skip (by simp [execOp,ho,hrun]) (hn _ _ _ M' _ hk R' (by simp [Rd]))
  split at h
  ·rename_i n sz i off hp;have h1:=evD_rd (M:=M) (a:=a) R.env p;rw [hp] at h1
   have hnx:n<M.nx:=by simp only [Rd] at h1;exact h1.2.1
   rcases famSt_ok H R h h1 (ev x) with h | ⟨st',M',w',hk,R',hrun⟩
   rotate_left
   ·exact Oper.wp_skip (by simp [execOp,ho,hrun]) (hn _ _ _ M' _ hk R' (by simp [Rd]))
   rcases hotQ_of R.mem hnx h with h | ⟨r,e,k,f,hx,hd,hX,hb,hi,rfl,rfl,hsz,h⟩
   ·obtain ⟨st1,M1,h,R1⟩:=frzN_ok _ st M _ R h;exact go st1 M1 R1 h
   ·obtain ⟨M',w',R',hrun⟩:=hot_ok H R hd hX hb hsz h1 (ev x) (by rw [hx];rfl) hi;exact Oper.wp_skip (by simp [execOp,ho,hrun]) (hn _ _ _ M' _ h R' (by simp [Rd]))
  ·exact go st M R h
 ·rename_i t l m ho;obtain ⟨d,st',v,M',w',hk,R',hr,hrun⟩:=makeD_ok H R h (ev l) (ev m);exact Oper.wp_value (by simp [execOp,ho,hrun]) (hn _ _ _ M' _ hk R' hr)
 ·rename_i t n ps ho;split at h
  ·rename_i hseq
   rcases famLit_ok H R h (mapEv_rd R.env (mapSnd ps.toList)) (ps.map fun (i,x)=>(i,a.eval x)) (by
    rw [Array.toList_map];exact seqN_of 0 ps.toList a.eval hseq) with h | ⟨d,st',v,M',w',hk,R',hr,hrun⟩
   rotate_left
   ·exact Oper.wp_value (by simp [execOp,ho,hrun]) (hn _ _ _ M' _ hk R' hr)
   obtain ⟨st1,M1,h,R1⟩:=frzN_ok _ st M _ R h
   obtain ⟨d,st',v,M',w',hk,R',hr,hrun⟩:=litD_ok H R1 h (mapEv_rd R1.env (mapSnd ps.toList)) (ps.map fun (i,x)=>(i,a.eval x)) (by
    rw [Array.toList_map];exact seqN_of 0 ps.toList a.eval hseq)
   exact Oper.wp_value (by simp [execOp,ho,hrun]) (hn _ _ _ M' _ hk R' hr)
  ·exact h.elim
 ·rename_i args tys ho;split at h
  ·rename_i s x t t' hargs htys
   have ha:args = #[s,x]:=by apply Array.ext';simpa using hargs
   have ht:tys = #[t,t']:=by apply Array.ext';simpa using htys
   subst ha ht;split at h
   ·rename_i he;have he:=nbq he;subst he;split at h
    ·rename_i n hs;have hsv:=ev s;rw [hs] at hsv
     rcases famApp_ok (ty:=o.type) H R h hsv (ev x) with h | ⟨d,st',v,M',w',hk,R',hr,hrun⟩
     ·obtain ⟨d,st',v,M',w',hk,R',hr,hrun⟩:=appendD_ok (ty:=o.type) H R h hsv (ev x);exact Oper.wp_value (by simp [execOp,ho,resolve,invoke,builtin,hrun]) (hn _ _ _ M' _ hk R' hr)
     ·exact Oper.wp_value (by simp [execOp,ho,resolve,invoke,builtin,hrun]) (hn _ _ _ M' _ hk R' hr)
    obtain ⟨d,st',v,M',w',hk,R',hr,hrun⟩:=appendD_ok (ty:=o.type) H R h (ev s) (ev x);exact Oper.wp_value (by simp [execOp,ho,resolve,invoke,builtin,hrun]) (hn _ _ _ M' _ hk R' hr)
   ·split at h
    ·rename_i u hu;have hxv:=ev x;rw [hu] at hxv;obtain ⟨d,st',v,M',w',hk,R',hr,hrun⟩:=appsD_ok (ty:=o.type) H R h (ev s) hxv;exact Oper.wp_value (by simp [execOp,ho,resolve,invoke,builtin,hrun]) (hn _ _ _ M' _ hk R' hr)
    ·obtain ⟨d,st',v,M',w',hk,R',hr,hrun⟩:=appzD_ok (ty:=o.type) H R h (ev s) (ev x);exact Oper.wp_value (by simp [execOp,ho,resolve,invoke,builtin,hrun]) (hn _ _ _ M' _ hk R' hr)
  ·exact h.elim
 ·rename_i args tys ho;split at h
  ·rename_i s t hargs htys
   have ha:args = #[s]:=by apply Array.ext';simpa using hargs
   have ht:tys = #[t]:=by apply Array.ext';simpa using htys
   subst ha ht;obtain ⟨d,st',v,M',w',hk,R',hr,hrun⟩:=rclrD_ok (ty:=o.type) H R h (ev s);exact Oper.wp_value (by simp [execOp,ho,resolve,invoke,builtin,hrun]) (hn _ _ _ M' _ hk R' hr)
  ·exact h.elim
 ·rename_i s d x ho;split at h
  ·obtain ⟨d,y,hk,hr,hrun⟩:=bconvD_ok H R h (ev x);exact Oper.wp_value (by simp [execOp,ho,hrun]) (hn _ _ _ M _ hk R hr)
  ·exact hpure h
 ·rename_i args tys ho;split at h
  ·rename_i s t hargs htys
   have ha:args = #[s]:=by apply Array.ext';simpa using hargs
   have ht:tys = #[t]:=by apply Array.ext';simpa using htys
   subst ha ht;obtain ⟨d,st',v,M',w',hk,R',hr,hrun⟩:=sdataD_ok (t:=t) H R h (ev s);exact Oper.wp_value (by simp [execOp,ho,resolve,invoke,builtin,hrun]) (hn _ _ _ M' _ hk R' hr)
  ·exact h.elim
 ·rename_i args tys ho;split at h
  ·rename_i s n t t' hargs htys
   have ha:args = #[s,n]:=by apply Array.ext';simpa using hargs
   have ht:tys = #[t,t']:=by apply Array.ext';simpa using htys
   subst ha ht;obtain ⟨d,st',v,M',w',hk,R',hr,hrun⟩:=ustrD_ok (it:=t') (ty:=o.type) H R h (ev s) (ev n);exact Oper.wp_value (by simp [execOp,ho,resolve,invoke,builtin,hrun]) (hn _ _ _ M' _ hk R' hr)
  ·exact h.elim
 ·rename_i args tys ho;split at h
  ·rename_i s t hargs htys
   have ha:args = #[s]:=by apply Array.ext';simpa using hargs
   have ht:tys = #[t]:=by apply Array.ext';simpa using htys
   subst ha ht;obtain ⟨d,y,hk,hr,hrun⟩:=capD_ok (ty:=o.type) H h (ev s) w;exact Oper.wp_value (by simp [execOp,ho,resolve,invoke,builtin,hrun]) (hn _ _ _ M _ hk R hr)
  ·exact h.elim
 ·rename_i t x lo hi mx ho;split at h
  ·rename_i m hx;have hxv:=ev x;rw [hx] at hxv;split at h
   ·split at h
    ·split at h
     ·rename_i hh
      rcases famShr_ok H R h hxv (ev hh) with h | ⟨d,st',v,M',hk,R',hr,hrun⟩
      ·obtain ⟨d,st',v,M',hk,R',hr,hrun⟩:=shrinkD_ok H R h hxv (ev hh);exact Oper.wp_value (by simp [execOp,ho,hrun]) (hn _ _ _ M' _ hk R' hr)
      ·exact Oper.wp_value (by simp [execOp,ho,hrun]) (hn _ _ _ M' _ hk R' hr)
     ·obtain ⟨d,st',v,M',hk,R',hr,hrun⟩:=cutD_ok (xl:=none) (xh:=none) H R h hxv (by simp) (by simp) (by simp) (by simp);exact Oper.wp_value (by simp [execOp,ho,hrun]) (hn _ _ _ M' _ hk R' hr)
    ·rename_i l
     obtain ⟨d,st',v,M',hk,R',hr,hrun⟩:=cutD_ok (xl:=some (a.eval l)) (xh:=hi.map a.eval) H R h hxv (by simpa using ev l) (by simp) (by
      cases hi with
      | none=>simp
      | some y=>simpa using ev y) (by cases hi<;>simp)
     exact Oper.wp_value (by simp [execOp,ho,hrun]) (hn _ _ _ M' _ hk R' hr)
   ·exact h.elim
  ·rename_i sz n f hx;have hxv:=ev x;rw [hx] at hxv;split at h
   ·rename_i m hh;obtain ⟨d,st',v',M',hk,R',hr,hrun⟩:=cut3D_ok H R h hxv (ev hh) (ev m);exact Oper.wp_value (by simp [execOp,ho,hrun]) (hn _ _ _ M' _ hk R' hr)
   ·exact hpure h
  ·exact hpure h
 ·rename_i f args tys ho;split at h
  ·rename_i g caps hf;rw [forceL_eq] at h;have hfv:=ev f;rw [hf] at hfv;simp only [Rd] at hfv;obtain ⟨cs,hfv,hcaps⟩:=hfv;have hvs:=(mapEv_rd R.env args.toList).append hcaps.toT;unfold callD at h;split at h
   ·rename_i j n sz off ln cp hl;split at h
    ·rename_i e1 s1 n1 f1 e2 s2 c2 k2 f2 hj hn2 hne;obtain ⟨hp,hext,h⟩:=h;have hrun:=ovl_ok (vs:=(args.map a.eval) ++ cs) R hj hn2 (Nat.ne_of_beq_eq_false hne) hp hext (by rw [<-hl];simpa using hvs);refine Oper.wp_value (v:=.bool false) (by simp [execOp,ho,resolve,hfv,Deferred.ofValue,invoke,hrun]) (hn _ _ _ M _ h R (by simp [Rd]))
    ·exact h.elim
   obtain ⟨fn,hfn,hbody,hname⟩:=h.fn.ex
   have hrun:(execOp a.eval o).run P w = .ok (.enter g ((args.map a.eval) ++ cs)) w:=by
    have hname' : fn.name≠ "runtime.NumGoroutine":=by simpa using hname
    have hbody' : fn.body≠none:=by intro h0;rw [h0] at hbody;cases hbody
    simp [execOp,ho,resolve,hfv,Deferred.ofValue,invoke,callFunc,hfn,hbody',hname']
   have hc:=h.ok c nt M a w ((args.map a.eval) ++ cs) R (by simpa using hvs);unfold Oper.wp;rw [hrun,Oper.upon_enter];refine hc.mono ?_
   rintro e w' ⟨d,st',M',v,rfl,hk,R',hr⟩
   exact hn d st' v M' w' hk R' hr
  ·exact h.elim
 ·rename_i t n ho;split at h
  ·split at h
   ·obtain ⟨M',R',hr⟩:=R.mpd _ _;exact Oper.wp_value (v:=.map (some w.heap.size)) (by simp [execOp,ho,Instr.makeMap]) (hn _ _ _ M' _ h R' hr)
   ·obtain ⟨M',R',hr⟩:=R.mp _ _;exact Oper.wp_value (v:=.map (some w.heap.size)) (by simp [execOp,ho,Instr.makeMap]) (hn _ _ _ M' _ h R' hr)
  ·exact h.elim
 ·rename_i t m k ok ho
  rcases lookM_ok H R h (ev m) (ev k) with h | ⟨d,v,hk,hr,hrun⟩
  rotate_left
  ·exact Oper.wp_value (by simp [execOp,ho,hrun]) (hn _ _ _ M _ hk R hr)
  rcases lookE_ok H R h (ev m) (ev k) with h | ⟨d,v,hk,hr,hrun⟩
  ·obtain ⟨d,v,hk,hr,hrun⟩:=lookD_ok H R h (ev m) (ev k);exact Oper.wp_value (by simp [execOp,ho,hrun]) (hn _ _ _ M _ hk R hr)
  ·exact Oper.wp_value (by simp [execOp,ho,hrun]) (hn _ _ _ M _ hk R hr)
 ·rename_i t m k x ho
  rcases mputF_ok H R h (ev m) (ev k) (ev x) with h | ⟨st',M',w',hk,R',hrun⟩
  rotate_left
  ·exact Oper.wp_skip (by simp [execOp,ho,hrun]) (hn _ _ _ M' _ hk R' (by simp [Rd]))
  rcases mputM_ok H R h (ev m) (ev k) (ev x) with h | ⟨st',M',w',hk,R',hrun⟩
  rotate_left
  ·exact Oper.wp_skip (by simp [execOp,ho,hrun]) (hn _ _ _ M' _ hk R' (by simp [Rd]))
  obtain ⟨st',M',w',hk,R',hrun⟩:=mputD_ok H R h (ev m) (ev k) (ev x);exact Oper.wp_skip (by simp [execOp,ho,hrun]) (hn _ _ _ M' _ hk R' (by simp [Rd]))
 ·exact hpure h
def putW (nt:Nt) (dst:Option Tmp) (d:D) (st:St) (K:St->Prop):Prop :=
 match dst with
 | some t=>match Nat.blt t nt.n,memN t nt.ios with
   | true,false=>st.on fun e_ s_ k_=>K ⟨upd e_ t d,s_,k_⟩
   | _,_=>False
 | none=>K st
theorem putW_of {dst:Option Tmp} {d:D} {v:Value} {K:St->Prop} (h:putW nt dst d st K) (R:RelM c nt M st a w) (hr:Rd M false d v):∃ st',K st'/\RelM c nt M st' (a.put dst v) w:=by
 unfold putW at h;split at h
 ·split at h
  ·rename_i ht hio;exact ⟨_,h,R.put hr (by simpa [Nat.blt_eq] using ht) hio⟩
  ·exact h.elim
 ·exact ⟨_,h,R⟩
def stepW (P:Program) (Γ:Ty) (nt:Nt) (all:Array Oper) (o:Oper) (st:St) (K:St->Prop):Prop :=
 match o.guard with
 | none=>heavyW P Γ o.type o.op st fun d st=>putW nt o.dst d st K
 | some (j,b)=>match (all[j]?).bind (·.dst) with
   | none=>False
   | some t=>match st.env t with
     | .lit x=>match x == b with
       | true=>heavyW P Γ o.type o.op st fun d st=>putW nt o.dst d st K
       | false=>putW nt o.dst (.tup []) st K
     | .tup []=>putW nt o.dst (.tup []) st K
     | .bool x=>match Nat.blt t nt.n with
       | true=>Br (x=b) (st.on fun e_ s_ k_=>heavyW P Γ o.type o.op ⟨upd e_ t (.lit b),s_,k_⟩ fun d st=>putW nt o.dst d st K) (x = !b) (st.on fun e_ s_ k_=>putW nt o.dst (.tup []) ⟨upd e_ t (.lit !b),s_,k_⟩ K)| false=>False
     | _=>False
theorem getD_some {l:Array Value} {t:Nat} {b:Bool} (h:l.getD t undef = .bool b):l[t]? = some (.bool b):=by
 rcases Nat.lt_or_ge t l.size with h' | h'
 ·simp [Array.getD,h'] at h;simp [h',h]
 ·simp [Array.getD,Nat.not_lt.2 h',undef] at h
theorem RelM.lit {t:Nat} {x b:Bool} (R:RelM c nt M st a w) (ht:st.env t = .bool x) (e:x=b):RelM c nt M ⟨upd st.env t (.lit b),st.sto,st.nxt⟩ a w :=
 ⟨R.h,R.nx,R.mem,fun u=>by
  show Rd M false (upd st.env t (.lit b) u) _
  by_cases e2:u=t
  ·subst e2;rw [upd_self];have:=R.env u;rw [ht] at this;simp only [Rd] at this ⊢;rw [this,e]
  ·rw [upd_ne _ _ e2];exact R.env u,R.sz,R.defs,R.os,R.tape,R.output⟩
theorem stepW_ok (H:TyOK P Γ) (R:RelM c nt M st a w) (all:Array Oper) (o:Oper) {K:St->Prop} {next:Act->World->Prop} {Q:Exit->Act->World->Prop} (h:stepW P Γ nt all o st K)
 (hn:∀ st' M' a' w',K st'->RelM c nt M' st' a' w'->next a' w'):if Region.wanted o (yielded all a.tmps) then o.wp P a w next Q else next (a.put o.dst undef) w:=by
 have run:∀ (st1:St),RelM c nt M st1 a w->(heavyW P Γ o.type o.op st1 fun d st=>putW nt o.dst d st K)->o.wp P a w next Q:=fun st1 R1 h =>
  heavyW_ok H R1 o h fun d st' v M' w' hk R' hr=>by
   obtain ⟨st2,hk,R2⟩:=putW_of hk R' hr;exact hn st2 M' _ w' hk R2
 have skip:∀ (st1:St),RelM c nt M st1 a w->putW nt o.dst (.tup []) st1 K->next (a.put o.dst undef) w:=fun st1 R1 h=>by
  obtain ⟨st2,hk,R2⟩:=putW_of h R1 (v:=undef) (by simp only [Rd];exact ⟨#[],rfl,by simp [RdT]⟩);exact hn st2 M _ w hk R2
 unfold stepW at h;split at h
 ·rename_i hg;rw [if_pos (by simp [Region.wanted,hg])];exact run st R h
 ·rename_i j b hg;split at h
  ·exact h.elim
  ·rename_i t hj
   have hy:∀ x,a.tmps.getD t undef = .bool x->yielded all a.tmps j=some x:=fun x hx=>by
    unfold yielded;rw [hj];simp [getD_some hx]
   have hw:∀ x,a.tmps.getD t undef = .bool x->Region.wanted o (yielded all a.tmps)=(x == b):=fun x hx=>by
    simp only [Region.wanted,hg,hy x hx]
    cases x<;>cases b<;>rfl
   have he:=R.env t;split at h
   ·rename_i x hx;rw [hx] at he;simp only [Rd] at he;rw [hw x he];split at h
    ·rename_i hb;rw [hb];exact run st R h
    ·rename_i hb;rw [hb];exact skip st R h
   ·rename_i hx;rw [hx] at he;simp only [Rd] at he;obtain ⟨cs,he,_⟩:=he
    have hyn:yielded all a.tmps j=none:=by
     unfold yielded;rw [hj];simp only [Option.bind_some]
     cases hg2:a.tmps[t]? with
     | none=>rfl
     | some v =>
       have:a.tmps.getD t undef=v:=by
        have:=(Array.getElem?_eq_some_iff.1 hg2);simp [Array.getD,this.1,this.2]
       rw [this] at he;subst he;rfl
    have:Region.wanted o (yielded all a.tmps)=false:=by simp [Region.wanted,hg,hyn]
    rw [this];exact skip st R h
   ·rename_i x hx;have he':=he;rw [hx] at he';simp only [Rd] at he';rw [hw x he'];split at h
    ·by_cases e:x=b
     ·subst e;simp only [beq_self_eq_true,if_true];exact run _ (R.lit hx rfl) (h.1 rfl)
     ·have e' : x = !b:=by cases x<;>cases b<;>simp_all
      have:(x == b)=false:=by simpa using e
      rw [this];exact skip _ (R.lit hx e') (h.2 e')
    ·exact h.elim
   ·exact h.elim
def quietW (P:Program) (o:Op) (st:St) (K:D->St->Prop):Prop :=
 match o with
 | .call ⟨.value f,args,_⟩=>match evD st.env f with
   | .fn g caps=>forceL (mapEv st.env args.toList ++ caps) fun l=>CallQ P g l st K
   | _=>False
 | _=>False
theorem quietW_ok (R:RelM c nt M st a w) (o:Oper) {K:D->St->Prop} {next:Act->World->Prop} {Q:Exit->Act->World->Prop} (h:quietW P o.op st K)
 (hn:∀ d st' v M' w',Gr w w'->K d st'->RelM c nt M' st' a w'->Rd M' false d v->next (a.put o.dst v) w'):o.wp P a w next Q:=by
 have ev:=fun x=>evD_rd (M:=M) (env:=st.env) (a:=a) R.env x
 unfold quietW at h;split at h
 ·rename_i f args tys ho;split at h
  ·rename_i g caps hf;rw [forceL_eq] at h;have hfv:=ev f;rw [hf] at hfv;simp only [Rd] at hfv;obtain ⟨cs,hfv,hcaps⟩:=hfv;obtain ⟨fn,hfn,hbody,hname⟩:=h.fn.ex;have hvs:=(mapEv_rd R.env args.toList).append hcaps.toT
   have hrun:(execOp a.eval o).run P w = .ok (.enter g ((args.map a.eval) ++ cs)) w:=by
    have hname' : fn.name≠ "runtime.NumGoroutine":=by simpa using hname
    have hbody' : fn.body≠none:=by intro h0;rw [h0] at hbody;cases hbody
    simp [execOp,ho,resolve,hfv,Deferred.ofValue,invoke,callFunc,hfn,hbody',hname']
   have hc:=h.ok c nt M a w ((args.map a.eval) ++ cs) R (by simpa using hvs);unfold Oper.wp;rw [hrun,Oper.upon_enter];refine hc.mono ?_
   rintro e w' ⟨d,st',M',v,rfl,hg,hk,R',hr⟩
   exact hn d st' v M' w' hg hk R' hr
  ·exact h.elim
 ·exact h.elim
def stepC (P:Program) (nt:Nt) (all:Array Oper) (o:Oper) (st:St) (K:St->Prop):Prop :=
 match o.guard with
 | none=>quietW P o.op st fun d st=>putW nt o.dst d st K
 | some (j,b)=>match (all[j]?).bind (·.dst) with
   | none=>False
   | some t=>match st.env t with
     | .lit x=>match x == b with
       | true=>quietW P o.op st fun d st=>putW nt o.dst d st K
       | false=>putW nt o.dst (.tup []) st K
     | .tup []=>putW nt o.dst (.tup []) st K
     | .bool x=>match Nat.blt t nt.n with
       | true=>Br (x=b) (st.on fun e_ s_ k_=>quietW P o.op ⟨upd e_ t (.lit b),s_,k_⟩ fun d st=>putW nt o.dst d st K) (x = !b) (st.on fun e_ s_ k_=>putW nt o.dst (.tup []) ⟨upd e_ t (.lit !b),s_,k_⟩ K)| false=>False
     | _=>False
theorem stepC_ok (R:RelM c nt M st a w) (all:Array Oper) (o:Oper) {K:St->Prop} {next:Act->World->Prop} {Q:Exit->Act->World->Prop} (h:stepC P nt all o st K)
 (hn:∀ st' M' a' w',Gr w w'->K st'->RelM c nt M' st' a' w'->next a' w'):if Region.wanted o (yielded all a.tmps) then o.wp P a w next Q else next (a.put o.dst undef) w:=by
 have run:∀ (st1:St),RelM c nt M st1 a w->(quietW P o.op st1 fun d st=>putW nt o.dst d st K)->o.wp P a w next Q:=fun st1 R1 h =>
  quietW_ok R1 o h fun d st' v M' w' hg hk R' hr=>by
   obtain ⟨st2,hk,R2⟩:=putW_of hk R' hr;exact hn st2 M' _ w' hg hk R2
 have skip:∀ (st1:St),RelM c nt M st1 a w->putW nt o.dst (.tup []) st1 K->next (a.put o.dst undef) w:=fun st1 R1 h=>by
  obtain ⟨st2,hk,R2⟩:=putW_of h R1 (v:=undef) (by simp only [Rd];exact ⟨#[],rfl,by simp [RdT]⟩);exact hn st2 M _ w (Gr.refl w) hk R2
 unfold stepC at h;split at h
 ·rename_i hg;rw [if_pos (by simp [Region.wanted,hg])];exact run st R h
 ·rename_i j b hg;split at h
  ·exact h.elim
  ·rename_i t hj
   have hy:∀ x,a.tmps.getD t undef = .bool x->yielded all a.tmps j=some x:=fun x hx=>by
    unfold yielded;rw [hj];simp [getD_some hx]
   have hw:∀ x,a.tmps.getD t undef = .bool x->Region.wanted o (yielded all a.tmps)=(x == b):=fun x hx=>by
    simp only [Region.wanted,hg,hy x hx]
    cases x<;>cases b<;>rfl
   have he:=R.env t;split at h
   ·rename_i x hx;rw [hx] at he;simp only [Rd] at he;rw [hw x he];split at h
    ·rename_i hb;rw [hb];exact run st R h
    ·rename_i hb;rw [hb];exact skip st R h
   ·rename_i hx;rw [hx] at he;simp only [Rd] at he;obtain ⟨cs,he,_⟩:=he
    have hyn:yielded all a.tmps j=none:=by
     unfold yielded;rw [hj];simp only [Option.bind_some]
     cases hg2:a.tmps[t]? with
     | none=>rfl
     | some v =>
       have:a.tmps.getD t undef=v:=by
        have:=(Array.getElem?_eq_some_iff.1 hg2);simp [Array.getD,this.1,this.2]
       rw [this] at he;subst he;rfl
    have:Region.wanted o (yielded all a.tmps)=false:=by simp [Region.wanted,hg,hyn]
    rw [this];exact skip st R h
   ·rename_i x hx;have he':=he;rw [hx] at he';simp only [Rd] at he';rw [hw x he'];split at h
    ·by_cases e:x=b
     ·subst e;simp only [beq_self_eq_true,if_true];exact run _ (R.lit hx rfl) (h.1 rfl)
     ·have e' : x = !b:=by cases x<;>cases b<;>simp_all
      have:(x == b)=false:=by simpa using e
      rw [this];exact skip _ (R.lit hx e') (h.2 e')
    ·exact h.elim
   ·exact h.elim
def opsW (P:Program) (Γ:Ty) (nt:Nt) (all:Array Oper):List Oper->St->(St->Prop)->Prop
 | [],st,K=>K st
 | o :: r,st,K=>stepW P Γ nt all o st fun st=>opsW P Γ nt all r st K
theorem opsW_ok (H:TyOK P Γ) (all:Array Oper) {K:St->Prop} {Q:Exit->Act->World->Prop} (hn:∀ st' M' a' w',K st'->RelM c nt M' st' a' w'->Q .normal a' w') :
 ∀ (l:List Oper) (st:St) (M:Mi) (a:Act) (w:World),RelM c nt M st a w->opsW P Γ nt all l st K->wpList P all Q l a w
 | [],st,M,a,w,R,h=>hn st M a w h R
 | o :: l,st,M,a,w,R,h=>by
   simp only [opsW] at h
   have:=stepW_ok (Q:=Q) (next:=wpList P all Q l) H R all o h fun st' M' a' w' hk R'=>opsW_ok H all hn l st' M' a' w' R' hk
   unfold wpList;split
   ·rename_i hw;rw [if_pos hw] at this;exact .inl this
   ·rename_i hw;rw [if_neg hw] at this;exact this
end
end Sx
namespace Sx
open Go
section
variable {P:Program} {ops:Array Oper} {Q:Exit->Act->World->Prop} {md:Region.Mode} {gl gl' : Nat->Bool} {S0:World->Prop}
def waits (md:Region.Mode) (ops:Array Oper):Nat->Nat->Nat->Bool
 | 0,_,_=>false
 | n+1,j,i=>match ops[j]? with
   | none=>false
   | some o=>o.after.any fun e=>Region.binds md e && (e.on == i || waits md ops n e.on i)
def Dc (md:Region.Mode) (ops:Array Oper) (listed:Array Bool):Prop:=∀ j o,listed.getD j false=true->ops[j]? = some o->∀ e ∈ o.after,Region.binds md e=true->listed.getD e.on false=true
theorem waits_listed {listed:Array Bool} (hd:Dc md ops listed):∀ (n j i:Nat) (o:Oper),ops[j]? = some o->(∀ e ∈ o.after,Region.binds md e=true->listed.getD e.on false=true)->waits md ops n j i=true->listed.getD i false=true
 | 0,_,_,_,_,_,h=>by simp [waits] at h
 | n+1,j,i,o,ho,hall,h=>by
   simp only [waits,ho,Array.any_eq_true',bat,Bool.or_eq_true,beq_iff_eq] at h;obtain ⟨e,he,hb,h⟩:=h;have hl:=hall e he hb
   rcases h with h | h
   ·rw [<-h];exact hl
   ·cases ho2:ops[e.on]? with
    | none=>cases n<;>simp [waits,ho2] at h
    | some o2=>exact waits_listed hd n e.on i o2 ho2 (hd e.on o2 hl ho2) h
theorem Dc.set {listed:Array Bool} {j:Nat} (hd:Dc md ops listed) (hr:j ∈ Region.ready md ops listed):Dc md ops (listed.setIfInBounds j true):=by
 obtain ⟨hju,oj,hoj,hall⟩:=mem_ready.1 hr
 have up:∀ k,listed.getD k false=true->(listed.setIfInBounds j true).getD k false=true:=fun k hk=>by
  by_cases e:j=k
  ·subst e
   rcases Nat.lt_or_ge j listed.size with h | h
   ·simp [Array.getD,h]
   ·simp [Array.getD,Nat.not_lt.2 h] at hk
  ·rw [getD_set_ne false e];exact hk
 intro k o hk ho e he hb;by_cases e1:j=k
 ·subst e1;rw [hoj] at ho;cases ho;exact up _ (hall e he hb)
 ·rw [getD_set_ne false e1] at hk;exact up _ (hd k o hk ho e he hb)
def QuietS {α:Type} (P:Program) (x:Sem α):Prop:=∀ w,match x.run P w with
 | .ok _ w'=>w' = w| _=>True
theorem QuietS.bind {α β:Type} {P:Program} {x:Sem α} {f:α->Sem β} (hx:QuietS P x) (hf:∀ v,QuietS P (f v)):QuietS P (x >>= f):=fun w=>by
 have h:=hx w;rw [Sem.run_bind]
 cases hr:x.run P w with
 | ok v w' =>
   rw [hr] at h;subst h;exact hf v w'
 | _=>trivial
theorem QuietS.pure {α:Type} {P:Program} (v:α):QuietS P (Pure.pure v:Sem α):=fun w=>by rw [Sem.run_pure]
theorem QuietS.load {P:Program} (a:Addr) (m:Mode):QuietS P (Go.load a m):=fun w=>by
 simp only [Go.load,Sem.run]
 split<;>rename_i h<;>revert h<;>(repeat' split)<;>intro h<;>simp_all
theorem QuietS.stuck {α:Type} {P:Program} (why:String):QuietS P (Go.stuck why:Sem α):=fun w=>by simp [Go.stuck]
theorem QuietS.program {P:Program}:QuietS P Go.program:=fun w=>by simp [Go.program,Sem.run]
theorem QuietS.underlying {P:Program} (t:TypeId):QuietS P (Go.underlying t):=by
 unfold Go.underlying
 refine QuietS.program.bind fun p=>?_
 split
 ·exact .pure _
 ·exact .stuck _
theorem QuietS.typeInfo {P:Program} (t:TypeId):QuietS P (Go.typeInfo t):=by
 unfold Go.typeInfo
 refine QuietS.program.bind fun p=>?_
 split
 ·exact .pure _
 ·exact .stuck _
theorem QuietS.sizeOf {P:Program} (t:TypeId):QuietS P (Go.sizeOf t):=(QuietS.typeInfo t).bind fun _=>.pure _
theorem QuietS.isAgg {P:Program} (t:TypeId):QuietS P (Go.isAgg t):=by
 unfold Go.isAgg
 refine (QuietS.underlying t).bind fun d=>?_
 split<;>exact .pure _
theorem QuietS.cells {P:Program} (a:Addr):∀ (n i:Nat) (acc:Array Value),QuietS P (Go.loadCellsFrom a i n acc)
 | 0,_,_=>.pure _
 | n+1,i,acc=>by
   unfold Go.loadCellsFrom
   exact (QuietS.load _ _).bind fun v=>QuietS.cells a n _ _
theorem QuietS.loadAt {P:Program} (t:TypeId) (v:Value):QuietS P (Instr.loadAt t v):=by
 unfold Instr.loadAt
 refine QuietS.bind (x:=Instr.sureAddr v) ?_ fun a=>?_
 ·unfold Instr.sureAddr;split
  ·exact .pure _
  ·exact .stuck _
 ·unfold Go.loadVar
  refine (QuietS.isAgg t).bind fun b=>?_
  split
  ·exact (QuietS.sizeOf t).bind fun n=>(QuietS.cells a n 0 #[]).bind fun _=>.pure _
  ·exact .load _ _
theorem load_quiet {i:Nat} {o:Oper} {a:Act} {w:World} {K:Act->World->Prop} (hi:ops[i]? = some o) (hl:isLoad o.op=true) (h:wpOp P ops Q i K a w) :
 wpOp P ops Q i (fun a' w'=>w' = w/\K a' w') a w:=by
 unfold wpOp at h ⊢;simp only [hi] at h ⊢;split
 ·rename_i hw;rw [if_pos hw] at h;refine h.imp (fun g=>?_) id
  cases ho:o.op<;>rw [ho] at hl<;>simp only [isLoad,bft] at hl
  rename_i t x;unfold Oper.wp at g ⊢
  have e:execOp a.eval o=(Instr.loadAt t (a.eval x) >>= fun v=>Pure.pure (Next.value v)):=by simp only [execOp,ho]
  rw [e,Sem.run_bind] at g ⊢;have hq:=QuietS.loadAt (P:=P) t (a.eval x) w
  revert g hq
  cases (Instr.loadAt t (a.eval x)).run P w with
  | ok v w'=>intro g hq;subst hq;exact ⟨rfl,g⟩
  | halt e w'=>intro g _;cases e<;>exact g
 ·rename_i hw;rw [if_neg hw] at h;exact ⟨trivial,h⟩
def GrowS {α:Type} (P:Program) (x:Sem α):Prop:=∀ w,match x.run P w with
 | .ok _ w'=>Gr w w'| _=>True
theorem GrowS.quiet {α:Type} {P:Program} {x:Sem α} (h:QuietS P x):GrowS P x:=fun w=>by
 have:=h w
 cases hr:x.run P w with
 | ok v w'=>rw [hr] at this;subst this;exact Gr.refl _
 | _=>trivial
theorem Gr.trans {w1 w2 w3:World} (h1:Gr w1 w2) (h2:Gr w2 w3):Gr w1 w3:=fun b hb=>by
 have e1:=h1 b hb
 have hlt:b<w2.heap.size:=by
  rcases Nat.lt_or_ge b w2.heap.size with h | h
  ·exact h
  ·rw [Array.getElem?_eq_none h,Array.getElem?_eq_getElem hb] at e1;cases e1
 exact (h2 b hlt).trans e1
theorem GrowS.bind {α β:Type} {P:Program} {x:Sem α} {f:α->Sem β} (hx:GrowS P x) (hf:∀ v,GrowS P (f v)):GrowS P (x >>= f):=fun w=>by
 have h:=hx w;rw [Sem.run_bind]
 cases hr:x.run P w with
 | ok v w' =>
   rw [hr] at h;have h2:=hf v w'
   show match (f v).run P w' with | .ok _ w'=>Gr w w' | _=>True
   cases hr2:(f v).run P w' with
   | ok v2 w2=>rw [hr2] at h2;exact h.trans h2
   | _=>trivial
 | _=>trivial
theorem Gr.alloc (w:World) (o:Obj):Gr w (w.alloc o):=fun b hb=>by
 show (w.heap.push o)[b]? = _
 rw [Array.getElem?_push_lt hb,Array.getElem?_eq_getElem hb]
theorem GrowS.newVar {P:Program} (t:TypeId) (v:Value):GrowS P (Go.newVar t v):=fun w=>by
 have:(Go.newVar t v).run P w = .ok ⟨w.heap.size,0,none⟩ (w.alloc (.cells v.cells t)):=by simp [Go.newVar,newRow]
 rw [this];exact Gr.alloc _ _
theorem QuietS.zeroValue {P:Program} (t:TypeId):QuietS P (Go.zeroValue t):=by
 unfold Go.zeroValue
 refine (QuietS.typeInfo t).bind fun i=>?_
 split
 ·exact .pure _
 ·exact fun w=>by simp [Go.unsupported,Sem.run]
def NoOk {α:Type} (P:Program) (x:Sem α):Prop:=∀ w,match x.run P w with
 | .ok _ _=>False| _=>True
theorem NoOk.bind {α β:Type} {P:Program} {x:Sem α} {f:α->Sem β} (hf:∀ v,NoOk P (f v)):NoOk P (x >>= f):=fun w=>by
 rw [Sem.run_bind]
 cases hr:x.run P w with
 | ok v w'=>exact hf v w'| _=>trivial
theorem NoOk.halt {α:Type} {P:Program} (e:Halt):NoOk P (.halt e:Sem α):=fun w=>by simp [Sem.run]
theorem NoOk.grows {α:Type} {P:Program} {x:Sem α} (h:NoOk P x):GrowS P x:=fun w=>by
 have:=h w
 cases hr:x.run P w with
 | ok v w'=>rw [hr] at this;exact this.elim
 | _=>trivial
theorem NoOk.runtimePanic {α:Type} {P:Program} (e:RuntimeError):NoOk P (Go.runtimePanic e:Sem α):=by
 unfold Go.runtimePanic
 refine NoOk.bind fun p=>?_
 dsimp only;split
 all_goals repeat' first
  | exact .halt _
  | refine NoOk.bind fun _=>?_
theorem QuietS.unsupported {α:Type} {P:Program} (e:Unsupported):QuietS P (Go.unsupported e:Sem α):=fun w=>by simp [Go.unsupported,Sem.run]
theorem GrowS.choose {P:Program} (q:Question):GrowS P (Go.choose q):=fun w=>by
 simp only [Go.choose,Sem.run]
 split<;>rename_i h<;>revert h<;>(repeat' split)<;>intro h<;>simp_all
 ·exact Gr.refl _
 ·obtain ⟨_,rfl⟩:=h;exact Gr.refl _
theorem QuietS.mark {P:Program} (m:Mark):QuietS P (Go.mark m):=fun w=>by
 simp [Go.mark,Sem.run]
theorem GrowS.newRow {P:Program} (t:TypeId) (v:Array Value):GrowS P (Go.newRow t v):=fun w=>by
 have:(Go.newRow t v).run P w = .ok ⟨w.heap.size,0,none⟩ (w.alloc (.cells v t)):=by simp [Go.newRow]
 rw [this];exact Gr.alloc _ _
theorem QuietS.lenOf {P:Program} (v:Value):QuietS P (Builtin.lenOf v):=by
 unfold Builtin.lenOf;split
 ·exact .pure _
 ·exact .pure _
 ·exact .stuck _
theorem QuietS.loadCells {P:Program} (a:Addr) (n:Nat):QuietS P (Go.loadCells a n):=QuietS.cells _ _ _ _
theorem QuietS.firstCells {P:Program} (s n:Nat) (v:Value):QuietS P (Builtin.firstCells s n v):=by
 unfold Builtin.firstCells;split
 ·exact .loadCells _ _
 ·exact .pure _
 ·exact .pure _
 ·exact .stuck _
theorem QuietS.askRoom {P:Program} (n:Nat):QuietS P (Go.askRoom n):=by
 unfold Go.askRoom;split
 ·exact .mark _
 ·exact .pure _
theorem QuietS.shape {P:Program} (b:Nat):QuietS P (Go.shape b):=fun w=>by simp [Go.shape,Sem.run]
theorem QuietS.holds {P:Program} (a:Addr) (n:Nat):QuietS P (Builtin.holdsCells a n):=by
 unfold Builtin.holdsCells
 refine (QuietS.shape _).bind fun s=>?_
 split
 ·exact .pure _
 ·exact .pure _
theorem QuietS.mayShare {P:Program} (s l n:Nat) (x:Value):QuietS P (Builtin.mayShare s l n none x):=by
 unfold Builtin.mayShare;dsimp only
 repeat' first|exact .pure _|exact .holds _ _|refine QuietS.bind ?_ fun _=>?_|split
def GrR {α:Type} (w:World) (r:Result α):Prop:=match r with
 | .ok _ w'=>Gr w w'| _=>True
theorem GrR.andThen {α β:Type} {w:World} {r:Result α} {f:α->World->Result β} (h:GrR w r) (hf:∀ v w',Gr w w'->GrR w (f v w')):GrR w (r.andThen f):=by
 cases r with
 | ok v w'=>exact hf v w' h
 | halt e w'=>cases e<;>trivial
theorem GrowS.at_ {α:Type} {P:Program} {x:Sem α} (h:GrowS P x) {w0 w:World} (hw:Gr w0 w):GrR w0 (x.run P w):=by
 have:=h w
 cases hr:x.run P w with
 | ok v w'=>rw [hr] at this;exact hw.trans this
 | halt e w'=>cases e<;>trivial
theorem append_grows {P:Program} (t ty:TypeId) (n c:Nat) (x:Value):GrowS P (Builtin.append_ #[t,t] ty #[.slice none n c,x]):=by
 intro w
 show GrR w _
 have h0:=Gr.refl w
 cases hu:P.underlying t with
 | none=>simp [Builtin.append_,Go.underlying,hu,GrR]
 | some d =>
   cases d
   case slice elem =>
    simp only [Builtin.append_,Sem.run_bind,run_underlying hu,Result.andThen_ok,List.getElem?_toArray,List.getElem?_cons_zero,List.getElem?_cons_succ,Sem.run_pure,bft,if_false,Bool.not_false,if_true,false_or]
    refine GrR.andThen (GrowS.at_ (.quiet (.sizeOf _)) h0) fun size w1 h1=>?_
    refine GrR.andThen (GrowS.at_ (.quiet (.lenOf _)) h1) fun k w2 h2=>?_
    refine GrowS.at_ ?_ h2
    have mk:GrowS P (α:=Value) (do
     let newCap <-choose (Question.appendCap (n+k) c elem)
     let __do_lift <-typeInfo elem
     askRoom (newCap*__do_lift.bytes)
     let old <-Builtin.firstCells size n (Value.slice none n c)
     let new <-Builtin.firstCells size k x
     let __do_lift <-zeroValue elem
     let __do_lift <-newRow elem (old ++ new ++ Builtin.zeroCells __do_lift.cells (newCap - (n+k)))
     pure (Value.slice (some __do_lift) (n+k) newCap)) :=
     (GrowS.choose _).bind fun _=>(GrowS.quiet (.typeInfo _)).bind fun _=>(GrowS.quiet (.askRoom _)).bind fun _=>(GrowS.quiet (.firstCells _ _ _)).bind fun _=>(GrowS.quiet (.firstCells _ _ _)).bind fun _ =>
       (GrowS.quiet (.zeroValue _)).bind fun _=>(GrowS.newRow _ _).bind fun _=>.quiet (.pure _)
    repeat' first|exact mk|exact .quiet (.pure _)|exact .quiet (.unsupported _)|exact (NoOk.runtimePanic _).grows|exact .quiet (.typeInfo _)|exact .quiet (.firstCells _ _ _)|exact .quiet (.mark _)|exact .quiet (.mayShare _ _ _ _)|refine GrowS.bind ?_ fun _=>?_|split
   all_goals simp [Builtin.append_,run_underlying hu,GrR]
def nilApp (args:Array Operand) (tys:Array TypeId):Bool :=
 match args.toList,tys.toList with
 | [.const (.slice none _ _),_],[t,t']=>Nat.beq t t'| _,_=>false
def isAlloc:Op->Bool
 | .alloc _=>true| .box ..=>true| .buildSlice ..=>true| .call ⟨.builtin .append,args,tys⟩=>nilApp args tys| _=>false
theorem buildSlice_grows {P:Program} (t:TypeId) (n:Nat) (x:Array (Nat × Value)):GrowS P (Instr.buildSlice t n x):=by
 unfold Instr.buildSlice
 refine (GrowS.quiet (QuietS.underlying t)).bind fun u=>?_
 split
 ·refine (GrowS.quiet (QuietS.sizeOf _)).bind fun s=>?_
  repeat' first|exact (GrowS.newRow _ _).bind fun _=>.quiet (.pure _)|exact .quiet (.pure _)|exact .quiet (.stuck _)|exact .quiet (.unsupported _)|exact .quiet (QuietS.zeroValue _)|split|(refine GrowS.bind ?_ fun z=>?_;· exact .quiet (QuietS.zeroValue _))|refine GrowS.bind ?_ fun z=>?_|(dsimp only;split)
 ·exact .quiet (.stuck _)
theorem alloc_grows {i:Nat} {o:Oper} {a:Act} {w:World} {K:Act->World->Prop} (hi:ops[i]? = some o) (hl:isAlloc o.op=true) (h:wpOp P ops Q i K a w) :
 wpOp P ops Q i (fun a' w'=>Gr w w'/\K a' w') a w:=by
 unfold wpOp at h ⊢;simp only [hi] at h ⊢;split
 ·rename_i hw;rw [if_pos hw] at h;refine h.imp (fun g=>?_) id
  have key:∀ x:Sem Value,GrowS P x->execOp a.eval o=(x >>= fun v=>Pure.pure (Next.value v))->o.wp P a w (fun a' w'=>Gr w w'/\K a' w') Q:=fun x hx e=>by
   unfold Oper.wp at g ⊢;rw [e,Sem.run_bind] at g ⊢;have hq:=hx w
   revert g hq
   cases x.run P w with
   | ok v w'=>intro g hq;exact ⟨hq,g⟩
   | halt e w'=>intro g _;cases e<;>exact g
  unfold isAlloc at hl;split at hl
  ·rename_i t ho;refine key (Instr.alloc t true (.tuple #[])) ?_ (by simp only [execOp,ho]);unfold Instr.alloc
   exact (GrowS.quiet (QuietS.zeroValue t)).bind fun z=>(GrowS.newVar t z).bind fun _=>.quiet (.pure _)
  ·rename_i t x ho;refine key (Instr.box t (a.eval x)) ?_ (by simp only [execOp,ho]);unfold Instr.box
   exact (GrowS.newVar t _).bind fun _=>.quiet (.pure _)
  ·rename_i t n x ho;exact key (Instr.buildSlice t n (x.map fun y=>(y.1,a.eval y.2))) (buildSlice_grows _ _ _) (by simp only [execOp,ho])
  ·rename_i args tys ho;unfold nilApp at hl;split at hl
   ·rename_i n c x t t' hargs htys
    have ha:args = #[.const (.slice none n c),x]:=by apply Array.ext';simpa using hargs
    have ht:tys = #[t,t']:=by apply Array.ext';simpa using htys
    have e:=nbq hl;subst ha ht e;exact key (Builtin.append_ #[t,t] o.type #[.slice none n c,a.eval x]) (append_grows _ _ _ _ _) (by simp [execOp,ho,resolve,invoke,builtin,Act.eval])
   ·cases hl
  ·cases hl
 ·rename_i hw;rw [if_neg hw] at h;exact ⟨Gr.refl w,h⟩
def wpAnyW (P:Program) (md:Region.Mode) (ops:Array Oper) (Q:Exit->Act->World->Prop) (gl:Nat->Bool):Nat->Array Bool->Act->World->Prop
 | 0,listed,a,w=>Region.ready md ops listed = []/\Q .normal a w
 | fuel+1,listed,a,w =>
   (Region.ready md ops listed = []->Q .normal a w) /\
   ∀ i ∈ Region.ready md ops listed,wpOp P ops Q i (fun a' w'=>(gl i=true->Gr w w')/\wpAnyW P md ops Q gl fuel (listed.setIfInBounds i true) a' w') a w
theorem wpAny_of_W:∀ (fuel:Nat) (listed:Array Bool) (a:Act) (w:World),wpAnyW P md ops Q gl fuel listed a w->wpAny P md ops Q fuel listed a w
 | 0,_,_,_,h=>h| fuel+1,_,_,_,h=>⟨h.1,fun i hi=>wpOp_mono (fun a' w' h'=>wpAny_of_W fuel _ a' w' h'.2) (h.2 i hi)⟩
theorem wpAnyW_more:∀ (fuel:Nat) (listed:Array Bool) (a:Act) (w:World),(∀ i,listed.getD i true=false->gl' i=true->gl i=true)->wpAnyW P md ops Q gl fuel listed a w->wpAnyW P md ops Q gl' fuel listed a w
 | 0,_,_,_,_,h=>h
 | fuel+1,listed,a,w,hu,h=>⟨h.1,fun i hi=>wpOp_mono (fun a' w' h'=>⟨fun hg=>h'.1 (hu i (mem_ready.1 hi).1 hg),wpAnyW_more fuel _ a' w' (fun k hk=>by
  by_cases e:i=k
  ·subst e
   rcases Nat.lt_or_ge i listed.size with h | h
   ·simp [Array.getD,h] at hk
   ·simp [Array.getD,Nat.not_lt.2 h] at hk
  ·rw [getD_set_ne true e] at hk;exact hu k hk) h'.2⟩) (h.2 i hi)⟩
theorem wpAnyW_first {i:Nat} {oi:Oper} {v:Value} (hi:ops[i]? = some oi) (hsel:∀ (j:Nat) (o:Oper) cs b,ops[j]? = some o->o.op≠.select cs b)
 (hQ:∀ c a w,Q (.panic c) (a.put oi.dst v) w->Q (.panic c) a w)
 (hS0:∀ w w',S0 w->Gr w w'->S0 w') (ld:Bool) (hld:ld=false->∀ w,S0 w) :
 ∀ (fuel:Nat) (listed:Array Bool) (a:Act) (w:World),Dc md ops listed ->
   (∀ j oj,ops[j]? = some oj->j≠i->listed.getD j true=false->(∀ e ∈ oj.after,Region.binds md e=true->e.on≠i)->oi.apart ops oj=true) ->
   (ld=true->∀ j,listed.getD j true=false->gl j=true\/waits md ops ops.size j i=true) ->
   i ∈ Region.ready md ops listed->YieldsIf P ops S0 oi v a->S0 w ->
   wpAnyW P md ops Q gl fuel (listed.setIfInBounds i true) (a.put oi.dst v) w->wpAnyW P md ops Q gl (fuel+1) listed a w:=by
 intro fuel
 induction fuel with
 | zero =>
   intro listed a w _ _ _ hr hy hS H;refine ⟨fun h=>(by rw [h] at hr;cases hr),fun j hj=>?_⟩;by_cases hji:j=i
   ·subst hji;exact hy.wpOp hi hS ⟨fun _=>Gr.refl w,H⟩
   ·have:=ready_mono hj hji;rw [H.1] at this;cases this
 | succ fuel ih =>
   intro listed a w hd hfree hwt hr hy hS H;refine ⟨fun h=>(by rw [h] at hr;cases hr),fun j hj=>?_⟩;by_cases hji:j=i
   ·subst hji;exact hy.wpOp hi hS ⟨fun _=>Gr.refl w,H⟩
   ·have h1:=H.2 j (ready_mono hj hji);obtain ⟨hjun,oj,hoj,hall⟩:=mem_ready.1 hj
    have hnl:listed.getD i false=false:=by
     have h0:=(mem_ready.1 hr).1
     rcases Nat.lt_or_ge i listed.size with h' | h'
     ·simp [Array.getD,h'] at h0 ⊢;exact h0
     ·simp [Array.getD,Nat.not_lt.2 h'] at h0
    have hnw:waits md ops ops.size j i=false:=by
     cases hw:waits md ops ops.size j i with
     | false=>rfl
     | true=>rw [waits_listed hd ops.size j i oj hoj hall hw] at hnl;cases hnl
    have hnot:∀ e ∈ oj.after,Region.binds md e=true->e.on≠i:=fun e he hb heq=>by
     have h1:=hall e he hb;rw [heq,hnl] at h1;cases h1
    have h2:=wpOp_putIf hoj (hfree j oj hoj hji hjun hnot) (fun cs b=>hsel i oi cs b hi) (fun cs b=>hsel j oj cs b hoj) hQ hy h1
    have hun' : ∀ k,(listed.setIfInBounds j true).getD k true=false->listed.getD k true=false:=fun k hun=>by
     by_cases hjk:j=k
     ·subst hjk;exact hjun
     ·rw [getD_set_ne true hjk] at hun;exact hun
    have hfree' : ∀ k ok,ops[k]? = some ok->k≠i->(listed.setIfInBounds j true).getD k true=false ->
     (∀ e ∈ ok.after,Region.binds md e=true->e.on≠i)->oi.apart ops ok=true:=fun k ok hk hki hun hno=>hfree k ok hk hki (hun' k hun) hno
    have hS' : ∀ w',(gl j=true->Gr w w')->S0 w':=fun w' hg=>by
     cases hl:ld with
     | false=>exact hld hl w'
     | true =>
       rcases hwt hl j hjun with h | h
       ·exact hS0 w w' hS (hg h)
       ·rw [hnw] at h;cases h
    refine wpOp_mono (fun a' w' h3=>⟨h3.2.1,ih (listed.setIfInBounds j true) a' w' (hd.set hj) hfree' (fun hl k hk=>hwt hl k (hun' k hk)) (ready_mono hr (Ne.symm hji)) h3.1 (hS' w' h3.2.1) ?_⟩) h2;rw [Array.setIfInBounds_comm _ _ hji];exact h3.2.2
end
def forceN (m:Nat) (K:Nat->Bool):Bool:=match m with
 | 0=>K 0| n+1=>K (n+1)
theorem forceN_eq (m:Nat) (K:Nat->Bool):forceN m K=K m:=by cases m<;>rfl
def nthN:List Nat->Nat->Nat
 | [],_=>0| m :: _,0=>m| _ :: l,k+1=>nthN l k
def maskOf (md:Region.Mode) (k:Nat) (A:List Nat):List Edge->Nat->Nat
 | [],m=>m
 | e :: l,m=>maskOf md k A l (match Region.binds md e,Nat.blt e.on k with
   | true,true=>m ||| ((1 <<< e.on) ||| nthN A (k - 1 - e.on))
   | _,_=>m)
def masksF (md:Region.Mode):List Oper->Nat->List Nat->(List Nat->Bool)->Bool
 | [],_,A,K=>K A
 | o :: r,k,A,K=>forceN (maskOf md k A o.after.toList 0) fun m=>masksF md r (k+1) (m :: A) K
def MaskOK (md:Region.Mode) (ops:Array Oper) (k:Nat) (A:List Nat):Prop:=∀ j,j<k->∀ i,(nthN A (k - 1 - j)).testBit i=true->waits md ops (j+1) j i=true
theorem waits_mono {md:Region.Mode} {ops:Array Oper}:∀ (n j i:Nat),waits md ops n j i=true->waits md ops (n+1) j i=true
 | 0,_,_,h=>by simp [waits] at h
 | n+1,j,i,h=>by
   unfold waits at h ⊢;split at h
   ·simp at h
   ·rename_i o ho;simp only [Array.any_eq_true',bat,Bool.or_eq_true] at h ⊢;obtain ⟨e,he,hb,h⟩:=h;exact ⟨e,he,hb,h.imp id fun h=>waits_mono n e.on i h⟩
theorem waits_le {md:Region.Mode} {ops:Array Oper} {n m j i:Nat} (hn:n<=m) (h:waits md ops n j i=true):waits md ops m j i=true:=by
 induction m with
 | zero=>obtain rfl:n=0:=by omega
         exact h
 | succ m ih =>
   rcases Nat.lt_or_ge n (m+1) with h' | h'
   ·exact waits_mono _ _ _ (ih (by omega))
   ·obtain rfl:n=m+1:=by omega
    exact h
theorem maskOf_ok {md:Region.Mode} {ops:Array Oper} {k:Nat} {A:List Nat} {o:Oper} (ho:ops[k]? = some o) (hA:MaskOK md ops k A):∀ (l:List Edge) (m:Nat),(∀ e ∈ l,e ∈ o.after)->(∀ i,m.testBit i=true->waits md ops (k+1) k i=true) ->
 ∀ i,(maskOf md k A l m).testBit i=true->waits md ops (k+1) k i=true
 | [],m,_,hm,i,h=>hm i h
 | e :: l,m,hl,hm,i,h=>by
   simp only [maskOf] at h;refine maskOf_ok ho hA l _ (fun x hx=>hl x (List.mem_cons_of_mem _ hx)) ?_ i h;intro i hi;split at hi
   ·rename_i hb hk
    have hk:e.on<k:=by simpa [Nat.blt_eq] using hk
    have hw:(e.on == i || waits md ops k e.on i)=true->waits md ops (k+1) k i=true:=fun hx=>by
     simp only [waits,ho,Array.any_eq_true',bat];exact ⟨e,hl e List.mem_cons_self,hb,hx⟩
    simp only [Nat.testBit_or,Bool.or_eq_true] at hi
    rcases hi with hi | hi | hi
    ·exact hm i hi
    ·refine hw ?_;rw [Nat.one_shiftLeft,Nat.testBit_two_pow] at hi;simp only [decide_eq_true_eq] at hi;simp [hi]
    ·refine hw ?_;rw [Bool.or_eq_true];exact .inr (waits_le (by omega) (hA e.on hk i hi))
   ·exact hm i hi
theorem masksF_of {md:Region.Mode} {ops:Array Oper}:∀ (l:List Oper) (k:Nat) (A:List Nat) (K:List Nat->Bool),(∀ i,l[i]? = ops[k+i]?)->MaskOK md ops k A->masksF md l k A K=true->∃ A,MaskOK md ops (k+l.length) A/\K A=true
 | [],k,A,K,_,hA,h=>⟨A,hA,h⟩
 | o :: r,k,A,K,hl,hA,h=>by
   simp only [masksF,forceN_eq] at h
   have ho:ops[k]? = some o:=by simpa using (hl 0).symm
   have:=masksF_of r (k+1) _ K (fun i=>by have:=hl (i+1);simpa [Nat.add_assoc,Nat.add_comm 1 i] using this) (fun j hj i hi=>by
    rcases Nat.lt_or_ge j k with h' | h'
    ·have e:k+1 - 1 - j=(k - 1 - j)+1:=by omega
     rw [e] at hi;exact hA j h' i hi
    ·obtain rfl:j=k:=by omega
     have e:j+1 - 1 - j=0:=by omega
     rw [e] at hi
     exact maskOf_ok ho hA o.after.toList 0 (fun x hx=>by simpa using hx) (fun i hi=>by simp at hi) i hi) h
   obtain ⟨A',h1,h2⟩:=this;exact ⟨A',by simpa [Nat.add_assoc,Nat.add_comm 1] using h1,h2⟩
inductive OT where
 | fin
 | ph (l:List Nat) (t:OT)
 | st (i:Nat) (t:OT)
 | alt (i:Nat) (t:OT) (j:Nat) (u:OT)
 | qc (i:Nat) (t:OT)
 | way (i:Nat) (t:OT) (m:OT)
 | qw (i:Nat) (t:OT) (m:OT)
 | non
def memB (n:Nat):List Nat->Bool
 | []=>false
 | m :: l=>match Nat.beq n m with
   | true=>true| false=>memB n l
def OT.qui:OT->List Nat
 | .fin=>[]| .ph l t=>l ++ t.qui| .st _ t=>t.qui| .alt _ t _ u=>t.qui ++ u.qui| .qc i t=>i :: t.qui| .way _ t m=>t.qui ++ m.qui| .qw i t m=>i :: (t.qui ++ m.qui)| .non=>[]
def OT.sts:OT->List Nat
 | .fin=>[]| .ph _ t=>t.sts| .st i t=>i :: t.sts| .alt i t j u=>i :: j :: (t.sts ++ u.sts)| .qc _ t=>t.sts| .way i t m=>i :: (t.sts ++ m.sts)| .qw _ t m=>t.sts ++ m.sts| .non=>[]
def OT.heads:OT->List Nat
 | .way i _ m=>i :: m.heads| .qw i _ m=>i :: m.heads| _=>[]
def OT.qcs (t:OT):List Nat:=t.qui.filter fun i=>!memB i t.sts
def rdl (ops:Array Oper):List Nat->List Nat
 | []=>[]
 | i :: l=>match ops[i]? with
   | some o=>if isLoad o.op then i :: rdl ops l else rdl ops l
   | none=>rdl ops l
def growAt (ops:Array Oper) (j:Nat):Bool:=match ops[j]? with
 | some o=>isLoad o.op || isAlloc o.op| none=>false
def fstL {α:Type}:List Bool->(List Bool->α)->α
 | [],K=>K []
 | b :: l,K=>match b with
   | true=>fstL l fun l=>K (true :: l)
   | false=>fstL l fun l=>K (false :: l)
theorem fstL_eq {α:Type}:∀ (l:List Bool) (K:List Bool->α),fstL l K=K l
 | [],_=>rfl
 | true :: l,K=>by simp only [fstL,fstL_eq l]
 | false :: l,K=>by simp only [fstL,fstL_eq l]
def fstA {α:Type} (L:Array Bool) (K:Array Bool->α):α:=fstL L.toList fun l=>K ⟨l⟩
theorem fstA_eq {α:Type} (L:Array Bool) (K:Array Bool->α):fstA L K=K L:=by rw [fstA,fstL_eq]
def phOK (ops:Array Oper) (n:Nat):List Nat->Array Bool->Option (Array Bool)
 | [],L=>some L
 | i :: l,L=>if (ops[i]?).isSome && Region.free .any ops L i && (Region.ready .any ops L).contains i then fstA (L.setIfInBounds i true) fun L=>phOK ops n l L else none
def otOK (ops:Array Oper) (A ql:List Nat):OT->Bool->Array Bool->Bool
 | .fin,b,L=>!b && (Region.ready .any ops L).isEmpty
 | .ph l t,b,L=>!b && match phOK ops ops.size l L with
   | some L'=>((List.range ops.size).all fun j=>L'.getD j true || growAt ops j || memB j ql || (rdl ops l).all fun r=>(nthN A (ops.size - 1 - j)).testBit r) && L'.size == ops.size && otOK ops A ql t false L'| none=>false
 | .st i t,b,L=>!b && Region.ready .any ops L == [i] && (ops[i]?).isSome && !memB i ql && fstA (L.setIfInBounds i true) (otOK ops A ql t false)| .alt i t j u,b,L=>!b && Region.ready .any ops L == [i,j] && (ops[i]?).isSome && (ops[j]?).isSome && !memB i ql && !memB j ql && fstA (L.setIfInBounds i true) (otOK ops A ql t false) && fstA (L.setIfInBounds j true) (otOK ops A ql u false)| .qc i t,b,L=>!b && Region.ready .any ops L == [i] && (ops[i]?).isSome && fstA (L.setIfInBounds i true) (otOK ops A ql t false)
 | .way i t m,b,L=>(b || (!(Region.ready .any ops L).isEmpty && (Region.ready .any ops L).all fun j=>memB j (i :: m.heads))) && (ops[i]?).isSome && !memB i ql && fstA (L.setIfInBounds i true) (otOK ops A ql t false) && otOK ops A ql m true L| .qw i t m,b,L=>(b || (!(Region.ready .any ops L).isEmpty && (Region.ready .any ops L).all fun j=>memB j (i :: m.heads))) && (ops[i]?).isSome && fstA (L.setIfInBounds i true) (otOK ops A ql t false) && otOK ops A ql m true L
 | .non,b,_=>b
def otSize:OT->Nat
 | .fin=>0| .ph l t=>l.length+otSize t| .st _ t=>otSize t+1| .alt _ t _ u=>max (otSize t) (otSize u)+1| .qc _ t=>otSize t+1| .way _ t m=>max (otSize t+1) (otSize m)| .qw _ t m=>max (otSize t+1) (otSize m)| .non=>0
def stepQ (Γ:Ty) (nt:Nt) (all:Array Oper) (o:Oper) (st:St) (K:St->Prop):Prop :=
 match o.guard with
 | none=>pureW Γ st.sto st.env o.op fun d=>putW nt o.dst d st K
 | some (j,b)=>match (all[j]?).bind (·.dst) with
   | none=>False
   | some t=>match st.env t with
     | .lit x=>match x == b with
       | true=>pureW Γ st.sto st.env o.op fun d=>putW nt o.dst d st K
       | false=>putW nt o.dst (.tup []) st K
     | .tup []=>putW nt o.dst (.tup []) st K
     | .bool x=>match Nat.blt t nt.n with
       | true=>Br (x=b) (st.on fun e_ s_ k_=>pureW Γ s_ (upd e_ t (.lit b)) o.op fun d=>putW nt o.dst d ⟨upd e_ t (.lit b),s_,k_⟩ K) (x = !b) (st.on fun e_ s_ k_=>putW nt o.dst (.tup []) ⟨upd e_ t (.lit !b),s_,k_⟩ K)| false=>False
     | _=>False
def atOp (ops:Array Oper) (i:Nat) (K:Oper->Prop):Prop:=match ops[i]? with
 | some o=>K o| none=>False
def phW (Γ:Ty) (nt:Nt) (all:Array Oper):List Nat->St->(St->Prop)->Prop
 | [],st,K=>K st
 | i :: l,st,K=>atOp all i fun o=>stepQ Γ nt all o st fun st=>phW Γ nt all l st K
def otW (P:Program) (Γ:Ty) (nt:Nt) (all:Array Oper):OT->St->(St->Prop)->Prop
 | .fin,st,K=>K st
 | .ph l t,st,K=>phW Γ nt all l st fun st=>otW P Γ nt all t st K
 | .st i t,st,K=>atOp all i fun o=>stepW P Γ nt all o st fun st=>otW P Γ nt all t st K
 | .alt i t j u,st,K=>Two (atOp all i fun o=>stepW P Γ nt all o st fun st=>otW P Γ nt all t st K) (atOp all j fun o=>stepW P Γ nt all o st fun st=>otW P Γ nt all u st K)
 | .qc i t,st,K=>atOp all i fun o=>stepC P nt all o st fun st=>otW P Γ nt all t st K
 | .way i t m,st,K=>Two (atOp all i fun o=>stepW P Γ nt all o st fun st=>otW P Γ nt all t st K) (otW P Γ nt all m st K)| .qw i t m,st,K=>Two (atOp all i fun o=>stepC P nt all o st fun st=>otW P Γ nt all t st K) (otW P Γ nt all m st K)| .non,_,_=>True
section
variable {P:Program} {Γ:Ty} {c:Cx P} {nt:Nt} {M:Mi} {st:St} {a:Act} {w:World}
theorem stepQ_ok (H:TyOK P Γ) (R:RelM c nt M st a w) (all:Array Oper) (o:Oper) {K:St->Prop} (h:stepQ Γ nt all o st K) :
 ∃ st' v,K st'/\RelM c nt M st' (a.put o.dst v) w/\YieldsIf P all (fun w'=>isLoad o.op=true->Gr w w') o v a:=by
 have run:∀ (st1:St),RelM c nt M st1 a w->Region.wanted o (yielded all a.tmps)=true->(pureW Γ st1.sto st1.env o.op fun d=>putW nt o.dst d st1 K)->∃ st' v,K st'/\RelM c nt M st' (a.put o.dst v) w/\YieldsIf P all (fun w'=>isLoad o.op=true->Gr w w') o v a:=fun st1 R1 hw h=>by
  obtain ⟨d,v,hk,hr,hrun⟩:=pureW_ok (Kp:=fun w'=>isLoad o.op=true->Gr w w') H R1.mem R1.env o (fun hl w' hw' b hb=>by rw [hw' hl b (by rw [<-R1.h];exact hb),R1.h]) h;obtain ⟨st2,hk,R2⟩:=putW_of hk R1 hr;exact ⟨st2,v,hk,R2,.inl ⟨hw,hrun⟩⟩
 have skip:∀ (st1:St),RelM c nt M st1 a w->Region.wanted o (yielded all a.tmps)=false->putW nt o.dst (.tup []) st1 K->∃ st' v,K st'/\RelM c nt M st' (a.put o.dst v) w/\YieldsIf P all (fun w'=>isLoad o.op=true->Gr w w') o v a:=fun st1 R1 hw h=>by
  obtain ⟨st2,hk,R2⟩:=putW_of h R1 (v:=undef) (by simp only [Rd];exact ⟨#[],rfl,by simp [RdT]⟩);exact ⟨st2,undef,hk,R2,.inr ⟨hw,rfl⟩⟩
 unfold stepQ at h;split at h
 ·rename_i hg;exact run st R (by simp [Region.wanted,hg]) h
 ·rename_i j b hg;split at h
  ·exact h.elim
  ·rename_i t hj
   have hy:∀ x,a.tmps.getD t undef = .bool x->yielded all a.tmps j=some x:=fun x hx=>by
    unfold yielded;rw [hj];simp [getD_some hx]
   have hw:∀ x,a.tmps.getD t undef = .bool x->Region.wanted o (yielded all a.tmps)=(x == b):=fun x hx=>by
    simp only [Region.wanted,hg,hy x hx]
    cases x<;>cases b<;>rfl
   have he:=R.env t;split at h
   ·rename_i x hx;rw [hx] at he;simp only [Rd] at he;split at h
    ·rename_i hb;exact run st R (by rw [hw x he];exact hb) h
    ·rename_i hb;exact skip st R (by rw [hw x he];exact hb) h
   ·rename_i hx;rw [hx] at he;simp only [Rd] at he;obtain ⟨cs,he,_⟩:=he
    have hyn:yielded all a.tmps j=none:=by
     unfold yielded;rw [hj];simp only [Option.bind_some]
     cases hg2:a.tmps[t]? with
     | none=>rfl
     | some v =>
       have:a.tmps.getD t undef=v:=by
        have:=(Array.getElem?_eq_some_iff.1 hg2);simp [Array.getD,this.1,this.2]
       rw [this] at he;subst he;rfl
    exact skip st R (by simp [Region.wanted,hg,hyn]) h
   ·rename_i x hx;have he':=he;rw [hx] at he';simp only [Rd] at he';split at h
    ·by_cases e:x=b
     ·subst e;exact run ⟨upd st.env t (.lit x),st.sto,st.nxt⟩ (R.lit hx rfl) (by rw [hw x he'];simp) (h.1 rfl)
     ·have e' : x = !b:=by cases x<;>cases b<;>simp_all
      exact skip _ (R.lit hx e') (by rw [hw x he'];simpa using e) (h.2 e')
    ·exact h.elim
   ·exact h.elim
theorem phOK_all {ops:Array Oper} {n:Nat}:∀ {l:List Nat} {L L' : Array Bool},phOK ops n l L=some L'->Dc .any ops L->Dc .any ops L'
 | [],L,L',h,hd=>by simp [phOK] at h;subst h;exact hd
 | i :: l,L,L',h,hd=>by
   simp only [phOK,fstA_eq] at h;split at h
   ·rename_i hc;simp only [bat] at hc;exact phOK_all h (hd.set (by simpa using hc.2))
   ·cases h
theorem wpOp_of {ops:Array Oper} {Q:Exit->Act->World->Prop} {i:Nat} {o:Oper} {next:Act->World->Prop} (hi:ops[i]? = some o)
 (h:if Region.wanted o (yielded ops a.tmps) then o.wp P a w next Q else next (a.put o.dst undef) w):wpOp P ops Q i next a w:=by
 unfold wpOp;simp only [hi];split
 ·rename_i hw;rw [if_pos hw] at h;exact .inl h
 ·rename_i hw;rw [if_neg hw] at h;exact h
theorem step_gr {ops:Array Oper} {Q:Exit->Act->World->Prop} {i:Nat} {o:Oper} {ql:List Nat} {next:Act->World->Prop} (hi:ops[i]? = some o) (hq:memB i ql=false)
 (h:wpOp P ops Q i next a w):wpOp P ops Q i (fun a' w'=>((growAt ops i || memB i ql)=true->Gr w w')/\next a' w') a w:=by
 cases hl:isLoad o.op with
 | true=>exact wpOp_mono (fun a' w' (h:w' = w/\next a' w')=>⟨fun _=>(by rw [h.1];exact Gr.refl w),h.2⟩) (load_quiet hi hl h)
 | false =>
   cases ha:isAlloc o.op with
   | true=>exact wpOp_mono (fun a' w' (h:Gr w w'/\next a' w')=>⟨fun _=>h.1,h.2⟩) (alloc_grows hi ha h)
   | false =>
     have:(growAt ops i || memB i ql)=false:=by rw [hq,Bool.or_false];simp [growAt,hi,hl,ha]
     exact wpOp_mono (fun a' w' h=>⟨fun h2=>(by rw [this] at h2;cases h2),h⟩) h
theorem phOK_same {ops:Array Oper} {n:Nat}:∀ {l:List Nat} {L L' : Array Bool},phOK ops n l L=some L'->∀ i,i ∉ l->L'.getD i true=L.getD i true
 | [],L,L',h,i,_=>by simp [phOK] at h;subst h;rfl
 | k :: l,L,L',h,i,hi=>by
   simp only [phOK,fstA_eq] at h;split at h
   ·rw [phOK_same h i fun h=>hi (List.mem_cons_of_mem _ h),getD_set_ne true fun e=>hi (by rw [e];exact List.mem_cons_self)]
   ·cases h
theorem phOK_done {ops:Array Oper} {n:Nat}:∀ {l:List Nat} {L L' : Array Bool},phOK ops n l L=some L'->∀ i ∈ l,L'.getD i true=true
 | [],_,_,_,i,hi=>by cases hi
 | k :: l,L,L',h,i,hi=>by
   simp only [phOK,fstA_eq] at h;split at h
   ·rcases List.mem_cons.1 hi with rfl | hi
    ·by_cases hm:i ∈ l
     ·exact phOK_done h i hm
     ·rw [phOK_same h i hm]
      rcases Nat.lt_or_ge i L.size with h | h
      ·simp [Array.getD,h]
      ·simp [Array.getD,Nat.not_lt.2 h]
    ·exact phOK_done h i hi
   ·cases h
theorem phOK_in {ops:Array Oper} {n:Nat} {l:List Nat} {L L' : Array Bool} (h:phOK ops n l L=some L') (j:Nat) (hj:L.getD j true=false):L'.getD j true=false\/j ∈ l:=by
 by_cases hm:j ∈ l
 ·exact .inr hm
 ·exact .inl (by rw [phOK_same h j hm];exact hj)
theorem phW_ok (H:TyOK P Γ) {ops:Array Oper} {Q:Exit->Act->World->Prop} (hsel:Region.noSelect ops=true) (hQ:∀ ch a w,Q (.panic ch) a w->False) {gl:Nat->Bool} {fuel:Nat} {L' : Array Bool} {K:St->Prop} {w:World}
 (hn:∀ st a,K st->RelM c nt M st a w->wpAnyW P .any ops Q gl fuel L' a w) :
 ∀ (l:List Nat) (L:Array Bool) (st:St) (a:Act),(∀ i ∈ l,gl i=true)->(∀ j,L'.getD j true=false->gl j=true\/∀ r ∈ rdl ops l,waits .any ops ops.size j r=true)->Dc .any ops L->phOK ops ops.size l L=some L'->RelM c nt M st a w->phW Γ nt ops l st K->wpAnyW P .any ops Q gl (l.length+fuel) L a w
 | [],L,st,a,_,_,_,hp,R,h=>by
   simp only [phOK,Option.some.injEq] at hp;subst hp;rw [List.length_nil,Nat.zero_add];exact hn st a h R
 | i :: l,L,st,a,hgl,hwt,hd,hp,R,h=>by
   have hp0:=hp;simp only [phOK,fstA_eq] at hp;split at hp
   case isFalse=>cases hp
   rename_i hc;simp only [bat] at hc;obtain ⟨⟨hs,hf⟩,hr⟩:=hc;simp only [phW,atOp] at h;split at h
   case h_2=>exact h.elim
   rename_i o ho;obtain ⟨st',v,hk,R',hy⟩:=stepQ_ok H R ops o h
   have hr' : i ∈ Region.ready .any ops L:=by simpa using hr
   have hwt' : ∀ j,L'.getD j true=false->gl j=true\/∀ r ∈ rdl ops l,waits .any ops ops.size j r=true:=fun j hj=>(hwt j hj).imp id fun h r hr=>h r (by
    simp only [rdl,ho];split
    ·exact List.mem_cons_of_mem _ hr
    ·exact hr)
   have ih:=phW_ok H hsel hQ hn l (L.setIfInBounds i true) st' _ (fun k hk=>hgl k (List.mem_cons_of_mem _ hk)) hwt' (hd.set hr') hp R' hk;rw [List.length_cons,Nat.succ_add];refine wpAnyW_first (S0:=fun w'=>isLoad o.op=true->Gr w w') ho (Region.noSelect_spec hsel) (fun ch a w hq=>(hQ _ _ _ hq).elim) (fun w1 w2 h1 hg hl=>fun b hb=>?_) (isLoad o.op) (fun hl w1 hl2=>by rw [hl] at hl2;cases hl2) _ L a w hd (Region.free_spec ho hf) (fun hl j hj=>?_) hr' hy (fun _=>Gr.refl w) ih
   ·have e1:=h1 hl b hb
    have hlt:b<w1.heap.size:=by
     rcases Nat.lt_or_ge b w1.heap.size with h | h
     ·exact h
     ·rw [Array.getElem?_eq_none h,Array.getElem?_eq_getElem hb] at e1;cases e1
    exact (hg b hlt).trans e1
   ·rcases phOK_in hp0 j hj with h | h
    ·exact (hwt j h).imp id fun h=>h i (by simp [rdl,ho,hl])
    ·exact .inl (hgl j h)
theorem memB_of:∀ {l:List Nat} {n:Nat},memB n l=true->n ∈ l
 | [],_,h=>by cases h
 | m :: l,n,h=>by
   unfold memB at h;split at h
   ·rename_i e;rw [nbq e];exact List.mem_cons_self
   ·exact List.mem_cons_of_mem _ (memB_of h)
mutual
theorem otW_ok (H:TyOK P Γ) {ops:Array Oper} {A ql:List Nat} (hA:MaskOK .any ops ops.size A) {Q:Exit->Act->World->Prop} (hsel:Region.noSelect ops=true) (hQ:∀ ch a w,Q (.panic ch) a w->False) {K:St->Prop}
 (hn:∀ st' M' a' w',K st'->RelM c nt M' st' a' w'->Q .normal a' w') :
 ∀ (t:OT) (fuel:Nat) (L:Array Bool) (st:St) (M:Mi) (a:Act) (w:World),otSize t<=fuel->Dc .any ops L->otOK ops A ql t false L=true->RelM c nt M st a w->otW P Γ nt ops t st K->wpAnyW P .any ops Q (fun j=>growAt ops j || memB j ql) fuel L a w
 | .fin,fuel,L,st,M,a,w,_,_,ho,R,h=>by
   simp only [otOK,bat,List.isEmpty_iff] at ho;replace ho:=ho.2
   cases fuel with
   | zero=>exact ⟨ho,hn st M a w h R⟩| succ fuel=>exact ⟨fun _=>hn st M a w h R,fun i hi=>by rw [ho] at hi;cases hi⟩
 | .ph l t,fuel,L,st,M,a,w,hf,hd,ho,R,h=>by
   simp only [otOK,Bool.not_false,Bool.true_and] at ho;split at ho
   case h_2=>cases ho
   rename_i L' hp;simp only [bat,beq_iff_eq,List.all_eq_true,List.mem_range,Bool.or_eq_true] at ho;obtain ⟨⟨hall,hsz⟩,ho⟩:=ho;simp only [otSize] at hf;obtain ⟨k,rfl⟩:∃ k,fuel=l.length+k:=⟨fuel - l.length,by omega⟩
   have hlt:∀ i,L'.getD i true=false->i<ops.size:=fun i hi=>by
    rw [<-hsz]
    rcases Nat.lt_or_ge i L'.size with h | h
    ·exact h
    ·simp [Array.getD,Nat.not_lt.2 h] at hi
   refine wpAnyW_more (gl:=fun j=>growAt ops j || memB j ql || l.contains j) _ _ _ _ (fun i _ hi=>by rw [hi];rfl) ?_;refine phW_ok (M:=M) H hsel hQ (fun st' a' hk R'=>?_) l L st a (fun i hi=>by simp [hi]) (fun j hj=>?_) hd hp R h
   ·refine wpAnyW_more _ _ _ _ (fun i hi hg=>?_) (otW_ok H hA hsel hQ hn t k L' st' M a' w (by omega) (phOK_all hp hd) ho R' hk);simp only [Bool.or_eq_true] at hg ⊢
    rcases hg with hg | hg
    ·exact hg
    ·have:=phOK_done hp i (by simpa using hg);rw [hi] at this;cases this
   ·rcases hall j (hlt j hj) with ((h | h) | h) | h
    ·rw [hj] at h;cases h
    ·exact .inl (by simp [h])
    ·exact .inl (by simp [h])
    ·exact .inr fun r hr=>waits_le (by have:=hlt j hj;omega) (hA j (hlt j hj) r (h r hr))
 | .st i t,fuel,L,st,M,a,w,hf,hd,ho,R,h=>by
   simp only [otOK,fstA_eq,Bool.not_false,Bool.true_and,bat,beq_iff_eq,Bool.not_eq_true'] at ho;obtain ⟨⟨⟨hr,hs⟩,hq⟩,ho⟩:=ho;simp only [otSize] at hf;obtain ⟨k,rfl⟩:∃ k,fuel=k+1:=⟨fuel - 1,by omega⟩;simp only [otW,atOp] at h;split at h
   case h_2=>exact h.elim
   rename_i o hoi
   have hmem:i ∈ Region.ready .any ops L:=by rw [hr];simp
   refine ⟨fun h=>(by rw [h] at hr;cases hr),fun j hj=>?_⟩
   have hj:j=i:=by rw [hr] at hj;simpa using hj
   subst hj
   have:=stepW_ok (Q:=Q) (next:=wpAnyW P .any ops Q (fun j=>growAt ops j || memB j ql) k (L.setIfInBounds j true)) H R ops o h fun st' M' a' w' hk R'=>otW_ok H hA hsel hQ hn t k _ st' M' a' w' (by omega) (hd.set hmem) ho R' hk
   exact step_gr hoi hq (wpOp_of hoi this)
 | .alt i t j u,fuel,L,st,M,a,w,hf,hd,ho,R,h=>by
   simp only [otOK,fstA_eq,Bool.not_false,Bool.true_and,bat,beq_iff_eq,Bool.not_eq_true'] at ho;obtain ⟨⟨⟨⟨⟨⟨hr,_⟩,_⟩,hq1⟩,hq2⟩,ho1⟩,ho2⟩:=ho;simp only [otSize] at hf;obtain ⟨k,rfl⟩:∃ k,fuel=k+1:=⟨fuel - 1,by omega⟩;simp only [otW] at h;obtain ⟨h1,h2⟩:=h;simp only [atOp] at h1 h2;split at h1
   case h_2=>exact h1.elim
   rename_i o1 hoi;split at h2
   case h_2=>exact h2.elim
   rename_i o2 hoj
   have hm1:i ∈ Region.ready .any ops L:=by rw [hr];simp
   have hm2:j ∈ Region.ready .any ops L:=by rw [hr];simp
   refine ⟨fun h=>(by rw [h] at hr;cases hr),fun q hq=>?_⟩
   have hq:q=i\/q=j:=by rw [hr] at hq;simpa using hq
   rcases hq with rfl | rfl
   ·have:=stepW_ok (Q:=Q) (next:=wpAnyW P .any ops Q (fun j=>growAt ops j || memB j ql) k (L.setIfInBounds q true)) H R ops o1 h1 fun st' M' a' w' hk R'=>otW_ok H hA hsel hQ hn t k _ st' M' a' w' (by omega) (hd.set hm1) ho1 R' hk
    exact step_gr hoi hq1 (wpOp_of hoi this)
   ·have:=stepW_ok (Q:=Q) (next:=wpAnyW P .any ops Q (fun j=>growAt ops j || memB j ql) k (L.setIfInBounds q true)) H R ops o2 h2 fun st' M' a' w' hk R'=>otW_ok H hA hsel hQ hn u k _ st' M' a' w' (by omega) (hd.set hm2) ho2 R' hk
    exact step_gr hoj hq2 (wpOp_of hoj this)
 | .qc i t,fuel,L,st,M,a,w,hf,hd,ho,R,h=>by
   simp only [otOK,fstA_eq,Bool.not_false,Bool.true_and,bat,beq_iff_eq] at ho;obtain ⟨⟨hr,hs⟩,ho⟩:=ho;simp only [otSize] at hf;obtain ⟨k,rfl⟩:∃ k,fuel=k+1:=⟨fuel - 1,by omega⟩;simp only [otW,atOp] at h;split at h
   case h_2=>exact h.elim
   rename_i o hoi
   have hmem:i ∈ Region.ready .any ops L:=by rw [hr];simp
   refine ⟨fun h=>(by rw [h] at hr;cases hr),fun j hj=>?_⟩
   have hj:j=i:=by rw [hr] at hj;simpa using hj
   subst hj
   have:=stepC_ok (Q:=Q) (next:=fun a' w'=>Gr w w'/\wpAnyW P .any ops Q (fun j=>growAt ops j || memB j ql) k (L.setIfInBounds j true) a' w') R ops o h fun st' M' a' w' hg hk R'=>⟨hg,otW_ok H hA hsel hQ hn t k _ st' M' a' w' (by omega) (hd.set hmem) ho R' hk⟩
   exact wpOp_mono (fun a' w' h=>⟨fun _=>h.1,h.2⟩) (wpOp_of hoi this)
 | .way i t m,fuel,L,st,M,a,w,hf,hd,ho,R,h=>by
   simp only [otOK,fstA_eq,Bool.false_or,bat,Bool.not_eq_true',List.all_eq_true] at ho;obtain ⟨⟨⟨⟨⟨hne,hall⟩,hs⟩,hq⟩,ho1⟩,ho2⟩:=ho;simp only [otSize] at hf;obtain ⟨k,rfl⟩:∃ k,fuel=k+1:=⟨fuel - 1,by omega⟩;simp only [otW] at h;obtain ⟨h1,h2⟩:=h;refine ⟨fun h=>(by rw [h] at hne;cases hne),fun j hj=>?_⟩
   rcases List.mem_cons.1 (memB_of (hall j hj)) with rfl | hm
   ·simp only [atOp] at h1;split at h1
    case h_2=>exact h1.elim
    rename_i o hoi
    have:=stepW_ok (Q:=Q) (next:=wpAnyW P .any ops Q (fun j=>growAt ops j || memB j ql) k (L.setIfInBounds j true)) H R ops o h1 fun st' M' a' w' hk R'=>otW_ok H hA hsel hQ hn t k _ st' M' a' w' (by omega) (hd.set hj) ho1 R' hk
    exact step_gr hoi hq (wpOp_of hoi this)
   ·exact ways_ok H hA hsel hQ hn m k L st M a w (by omega) hd ho2 R h2 j hm hj
 | .qw i t m,fuel,L,st,M,a,w,hf,hd,ho,R,h=>by
   simp only [otOK,fstA_eq,Bool.false_or,bat,Bool.not_eq_true',List.all_eq_true] at ho;obtain ⟨⟨⟨⟨hne,hall⟩,hs⟩,ho1⟩,ho2⟩:=ho;simp only [otSize] at hf;obtain ⟨k,rfl⟩:∃ k,fuel=k+1:=⟨fuel - 1,by omega⟩;simp only [otW] at h;obtain ⟨h1,h2⟩:=h;refine ⟨fun h=>(by rw [h] at hne;cases hne),fun j hj=>?_⟩
   rcases List.mem_cons.1 (memB_of (hall j hj)) with rfl | hm
   ·simp only [atOp] at h1;split at h1
    case h_2=>exact h1.elim
    rename_i o hoi
    have:=stepC_ok (Q:=Q) (next:=fun a' w'=>Gr w w'/\wpAnyW P .any ops Q (fun j=>growAt ops j || memB j ql) k (L.setIfInBounds j true) a' w') R ops o h1 fun st' M' a' w' hg hk R'=>⟨hg,otW_ok H hA hsel hQ hn t k _ st' M' a' w' (by omega) (hd.set hj) ho1 R' hk⟩
    exact wpOp_mono (fun a' w' h=>⟨fun _=>h.1,h.2⟩) (wpOp_of hoi this)
   ·exact ways_ok H hA hsel hQ hn m k L st M a w (by omega) hd ho2 R h2 j hm hj
 | .non,fuel,L,st,M,a,w,hf,hd,ho,R,h=>by simp [otOK] at ho
theorem ways_ok (H:TyOK P Γ) {ops:Array Oper} {A ql:List Nat} (hA:MaskOK .any ops ops.size A) {Q:Exit->Act->World->Prop} (hsel:Region.noSelect ops=true) (hQ:∀ ch a w,Q (.panic ch) a w->False) {K:St->Prop}
 (hn:∀ st' M' a' w',K st'->RelM c nt M' st' a' w'->Q .normal a' w') :
 ∀ (t:OT) (k:Nat) (L:Array Bool) (st:St) (M:Mi) (a:Act) (w:World),otSize t<=k+1->Dc .any ops L->otOK ops A ql t true L=true->RelM c nt M st a w->otW P Γ nt ops t st K ->
   ∀ j,j ∈ t.heads->j ∈ Region.ready .any ops L->wpOp P ops Q j (fun a' w'=>((growAt ops j || memB j ql)=true->Gr w w')/\wpAnyW P .any ops Q (fun j=>growAt ops j || memB j ql) k (L.setIfInBounds j true) a' w') a w
 | .way i t m,k,L,st,M,a,w,hf,hd,ho,R,h,j,hjh,hj=>by
   simp only [otOK,fstA_eq,Bool.true_or,Bool.true_and,bat,Bool.not_eq_true'] at ho;obtain ⟨⟨⟨hs,hq⟩,ho1⟩,ho2⟩:=ho;simp only [otSize] at hf;simp only [otW] at h;obtain ⟨h1,h2⟩:=h;simp only [OT.heads] at hjh
   rcases List.mem_cons.1 hjh with rfl | hm
   ·simp only [atOp] at h1;split at h1
    case h_2=>exact h1.elim
    rename_i o hoi
    have:=stepW_ok (Q:=Q) (next:=wpAnyW P .any ops Q (fun j=>growAt ops j || memB j ql) k (L.setIfInBounds j true)) H R ops o h1 fun st' M' a' w' hk R'=>otW_ok H hA hsel hQ hn t k _ st' M' a' w' (by omega) (hd.set hj) ho1 R' hk
    exact step_gr hoi hq (wpOp_of hoi this)
   ·exact ways_ok H hA hsel hQ hn m k L st M a w (by omega) hd ho2 R h2 j hm hj
 | .qw i t m,k,L,st,M,a,w,hf,hd,ho,R,h,j,hjh,hj=>by
   simp only [otOK,fstA_eq,Bool.true_or,Bool.true_and,bat,Bool.not_eq_true'] at ho;obtain ⟨⟨hs,ho1⟩,ho2⟩:=ho;simp only [otSize] at hf;simp only [otW] at h;obtain ⟨h1,h2⟩:=h;simp only [OT.heads] at hjh
   rcases List.mem_cons.1 hjh with rfl | hm
   ·simp only [atOp] at h1;split at h1
    case h_2=>exact h1.elim
    rename_i o hoi
    have:=stepC_ok (Q:=Q) (next:=fun a' w'=>Gr w w'/\wpAnyW P .any ops Q (fun j=>growAt ops j || memB j ql) k (L.setIfInBounds j true) a' w') R ops o h1 fun st' M' a' w' hg hk R'=>⟨hg,otW_ok H hA hsel hQ hn t k _ st' M' a' w' (by omega) (hd.set hj) ho1 R' hk⟩
    exact wpOp_mono (fun a' w' h=>⟨fun _=>h.1,h.2⟩) (wpOp_of hoi this)
   ·exact ways_ok H hA hsel hQ hn m k L st M a w (by omega) hd ho2 R h2 j hm hj
 | .fin,_,_,_,_,_,_,_,_,_,_,_,_,hjh,_=>by cases hjh
 | .ph _ _,_,_,_,_,_,_,_,_,_,_,_,_,hjh,_=>by cases hjh
 | .st _ _,_,_,_,_,_,_,_,_,_,_,_,_,hjh,_=>by cases hjh
 | .alt _ _ _ _,_,_,_,_,_,_,_,_,_,_,_,_,hjh,_=>by cases hjh
 | .qc _ _,_,_,_,_,_,_,_,_,_,_,_,_,hjh,_=>by cases hjh
 | .non,_,_,_,_,_,_,_,_,_,_,_,_,hjh,_=>by cases hjh
end
end
end Sx
namespace Sx
open Go
inductive Ex where
 | normal
 | exit (id:Nat)
 | ret
def thenW (K:Ex->St->Prop) (n:St->Prop):Ex->St->Prop
 | .normal,st=>n st| .exit i,st=>K (.exit i) st| .ret,st=>K .ret st
def blockW (id:Nat) (K:Ex->St->Prop):Ex->St->Prop
 | .normal,st=>K .normal st
 | .exit j,st=>match Nat.beq j id with
   | true=>K .normal st| false=>K (.exit j) st
 | .ret,st=>K .ret st
structure CxE {Pc:Program} (c c' : Cx Pc):Prop where
 tm:c'.tm=c.tm
 size:c.w0.heap.size<=c'.w0.heap.size
 mem:∀ M sto,Mem c' M sto->Mem c M sto
 os:c'.w0.os=c.w0.os
 tape:c'.w0.tape=c.w0.tape
 output:c'.w0.output=c.w0.output
 dm:∀ d ∈ c'.dm,d ∈ c.dm\/∃ D,d = { target:=.collected D,args:=#[] }/\c.w0.heap.size<=D
theorem CxE.refl {Pc:Program} (c:Cx Pc):CxE c c:=⟨rfl,Nat.le_refl _,fun _ _ h=>h,rfl,rfl,rfl,fun _ h=>.inl h⟩
def QK {Pc:Program} (c:Cx Pc) (nt:Nt) (K:Ex->St->Prop):Exit->Act->World->Prop
 | .normal,a,w=>∃ c' st M,CxE c c'/\K .normal st/\RelM c' nt M st a w| .exit id,a,w=>∃ c' st M,CxE c c'/\K (.exit id) st/\RelM c' nt M st a w| .ret,a,w=>∃ c' st M,CxE c c'/\K .ret st/\RelM c' nt M st a w| _,_,_=>False
structure CodeOK (P:Program) (nt:Nt) (x:Code) (st:St) (K:Ex->St->Prop):Prop where
 ok:∀ (c:Cx P) (M:Mi) (a:Act) (w:World),RelM c nt M st a w->x.wp P (QK c nt K) a w
abbrev Ords:=List (Nat × OT)
def lkO:Ords->Nat->Option OT
 | [],_=>none
 | (i,t) :: l,k=>match Nat.beq i k with
   | true=>some t| false=>lkO l k
def firstId:Code->Option Nat
 | .region id _ _=>some id| .seq a _=>firstId a| .cond _ a _=>firstId a| .block _ b=>firstId b| .loop b=>firstId b| _=>none
def cutAt (cuts:List Nat) (a:Code):Bool :=
 match firstId a with
 | some i=>memN i cuts| none=>false
def ordsOK (ords:Ords):Code->Bool
 | .region id ops true=>match lkO ords id with
   | some t=>Region.noSelect ops && masksF .any ops.toList 0 [] (fun A=>fstA (Array.replicate ops.size false) (otOK ops A t.qcs t false)) && Nat.ble (otSize t) ops.size| none=>false
 | .seq a b=>ordsOK ords a && ordsOK ords b| .cond _ a b=>ordsOK ords a && ordsOK ords b| .block _ b=>ordsOK ords b| .loop b=>ordsOK ords b| _=>true
def W (P:Program) (Γ:Ty) (nt:Nt) (ords:Ords) (cuts:List Nat):Code->St->(Ex->St->Prop)->Prop
 | .skip,st,K=>K .normal st| .label _,st,K=>K .normal st| .region _ ops false,st,K=>opsW P Γ nt ops ops.toList st (K .normal)
 | .region id ops true,st,K=>match lkO ords id with
   | some t=>otW P Γ nt ops t st (K .normal)| none=>False
 | .seq a b,st,K=>match cutAt cuts a with
   | true=>CodeOK P nt (.seq a b) st K| false=>W P Γ nt ords cuts a st (thenW K fun st=>W P Γ nt ords cuts b st K)
 | .cond c a b,st,K=>match evD st.env c with
   | .lit true=>W P Γ nt ords cuts a st K| .lit false=>W P Γ nt ords cuts b st K| .bool x=>Br (x=true) (W P Γ nt ords cuts a st K) (x=false) (W P Γ nt ords cuts b st K)| _=>False
 | .block id b,st,K=>W P Γ nt ords cuts b st (blockW id K)| .exit id,st,K=>K (.exit id) st| .ret,st,K=>K .ret st| .loop b,st,K=>CodeOK P nt (.loop b) st K| .rangeFunc g ps x y,st,K=>CodeOK P nt (.rangeFunc g ps x y) st K| _,_,_=>False
section
variable {P:Program} {Γ:Ty} {c:Cx P} {nt:Nt} {M:Mi} {st:St} {a:Act} {w:World} {ords:Ords} {cuts:List Nat}
theorem RelM.drew (R:RelM c nt M st a w):RelM c nt M st a { w with drawn:=w.drawn+1 }:=⟨R.h,R.nx,R.mem,R.env,R.sz,R.defs,R.os,R.tape,R.output⟩
theorem CxE.trans {c c' c'' : Cx P} (h:CxE c c') (k:CxE c' c''):CxE c c'' :=
 ⟨k.tm.trans h.tm,Nat.le_trans h.size k.size,fun M sto H=>h.mem M sto (k.mem M sto H),k.os.trans h.os,k.tape.trans h.tape,k.output.trans h.output,fun d hd=>by
  rcases k.dm d hd with h1 | ⟨D,e,h1⟩
  ·exact h.dm d h1
  ·exact .inr ⟨D,e,Nat.le_trans h.size h1⟩⟩
theorem QK.ext {c' : Cx P} {K:Ex->St->Prop} (h:CxE c c'):∀ e a w,QK c' nt K e a w->QK c nt K e a w:=by
 intro e a w hq
 cases e<;>simp only [QK] at hq ⊢
 all_goals
  obtain ⟨c2,st,M,h2,hk,R⟩:=hq;exact ⟨c2,st,M,h.trans h2,hk,R⟩
theorem QK.then (K:Ex->St->Prop) (n:St->Prop) {y:Code} (hy:∀ (c:Cx P) st M a w,n st->RelM c nt M st a w->y.wp P (QK c nt K) a w):∀ e a w,QK c nt (thenW K n) e a w->Exit.then (y.wp P (QK c nt K)) (QK c nt K) e a w:=by
 intro e a w h
 cases e with
 | normal =>
   obtain ⟨c',st,M,hx,h,R⟩:=h;exact wp_mono (hy c' st M a w h R) (QK.ext hx)
 | exit j=>exact h| ret=>exact h| goto l=>exact h.elim| panic ch=>exact h.elim| outgrown=>exact h.elim
theorem QK.block (K:Ex->St->Prop) (id:Nat):∀ e a w,QK c nt (blockW id K) e a w->Exit.inBlock id (QK c nt K) e a w:=by
 intro e a w h
 cases e with
 | normal=>exact h| ret=>exact h
 | exit j =>
   simp only [QK,Exit.inBlock,blockW] at h ⊢;split
   ·rename_i e;subst e;rw [beq_eq] at h;simpa only [decide_true] using h
   ·rename_i e
    have:Nat.beq j id=false:=by rw [beq_eq];simpa using e
    rw [this] at h;exact h
 | goto l=>exact h.elim| panic ch=>exact h.elim| outgrown=>exact h.elim
theorem QK.mono {K K' : Ex->St->Prop} (hk:∀ e st,K e st->K' e st):∀ e a w,QK c nt K e a w->QK c nt K' e a w:=by
 intro e a w h
 cases e<;>simp only [QK] at h ⊢
 all_goals
  obtain ⟨c',st,M,hx,h,R⟩:=h;exact ⟨c',st,M,hx,hk _ _ h,R⟩
theorem dc_start (md:Region.Mode) (ops:Array Oper):Dc md ops (Array.replicate ops.size false):=by
 intro j o h;simp [Array.getD] at h
theorem W_ok (H:TyOK P Γ) (hm:P.follows .mixedOrders=true):∀ (x:Code) (st:St) (K:Ex->St->Prop),ordsOK ords x=true->W P Γ nt ords cuts x st K->CodeOK P nt x st K
 | .skip,st,K,_,h=>⟨fun c M a w R=>wp_skip ⟨c,st,M,.refl c,h,R⟩⟩| .label _,st,K,_,h=>⟨fun c M a w R=>wp_label ⟨c,st,M,.refl c,h,R⟩⟩| .exit id,st,K,_,h=>⟨fun c M a w R=>wp_exit ⟨c,st,M,.refl c,h,R⟩⟩| .ret,st,K,_,h=>⟨fun c M a w R=>wp_ret ⟨c,st,M,.refl c,h,R⟩⟩| .region id ops false,st,K,_,h=>⟨fun c M a w R=>wp_region_list (opsW_ok H ops (fun st' M' a' w' hk R'=>⟨c,st',M',.refl c,hk,R'⟩) ops.toList st M a w R h)⟩
 | .region id ops true,st,K,ho,h=>by
   simp only [W] at h;simp only [ordsOK] at ho
   cases hl:lkO ords id with
   | none=>rw [hl] at h;exact h.elim
   | some t =>
     rw [hl] at h ho;simp only [bat] at ho;obtain ⟨A,hA,hoA⟩:=masksF_of (ops:=ops) ops.toList 0 [] _ (fun i=>by simp) (fun j hj=>absurd hj (Nat.not_lt_zero j)) ho.1.2;rw [Nat.zero_add,Array.length_toList] at hA;rw [fstA_eq] at hoA;exact ⟨fun c M a w R=>wp_region_any hm (wpAny_of_W _ _ _ _ <| otW_ok H hA ho.1.1 (fun ch a w h=>h) (fun st' M' a' w' hk R'=>⟨c,st',M',.refl c,hk,R'⟩) t ops.size _ st M a _ (Nat.le_of_ble_eq_true ho.2) (dc_start _ _) hoA R.drew h)⟩
 | .seq x y,st,K,ho,h=>by
   simp only [W] at h;simp only [ordsOK,bat] at ho;split at h
   ·exact h
   ·exact ⟨fun c M a w R=>wp_seq (wp_mono ((W_ok H hm x st _ ho.1 h).ok c M a w R) (QK.then K _ fun c st M a w h R=>(W_ok H hm y st K ho.2 h).ok c M a w R))⟩
 | .cond b x y,st,K,ho,h=>by
   simp only [W] at h;simp only [ordsOK,bat] at ho;refine ⟨fun c M a w R=>?_⟩;have he:=evD_rd (a:=a) R.env b;split at h
   ·rename_i hb;rw [hb] at he;simp only [Rd] at he;exact wp_cond_true he ((W_ok H hm x st K ho.1 h).ok c M a w R)
   ·rename_i hb;rw [hb] at he;simp only [Rd] at he;exact wp_cond_false he ((W_ok H hm y st K ho.2 h).ok c M a w R)
   ·rename_i hb;rw [hb] at he;simp only [Rd] at he;exact wp_cond_split he (fun e=>(W_ok H hm x st K ho.1 (h.1 e)).ok c M a w R) (fun e=>(W_ok H hm y st K ho.2 (h.2 e)).ok c M a w R)
   ·exact h.elim
 | .block id x,st,K,ho,h=>by
   simp only [W] at h;simp only [ordsOK] at ho;exact ⟨fun c M a w R=>wp_block (wp_mono ((W_ok H hm x st _ ho h).ok c M a w R) (QK.block K id))⟩
 | .loop b,st,K,_,h=>by simp only [W] at h;exact h
 | .rangeFunc ..,st,K,_,h=>by simp only [W] at h;exact h
 | .scope _,st,K,_,h=>by simp [W] at h
 | .goto _,st,K,_,h=>by simp [W] at h
 | .refuse _,st,K,_,h=>by simp [W] at h
def phX (Γ:Ty) (nt:Nt) (all:Array Oper):List Nat->St->(St->Prop)->Prop :=
 @List.rec Nat (fun _=>St->(St->Prop)->Prop) (fun st K=>K st) (fun i _ ih st K=>atOp all i fun o=>stepQ Γ nt all o st fun st=>ih st K)
theorem phX_eq (Γ:Ty) (nt:Nt) (all:Array Oper):∀ l:List Nat,phX Γ nt all l=phW Γ nt all l
 | []=>rfl
 | i :: l=>by
   funext st K
   show (atOp all i fun o=>stepQ Γ nt all o st fun st=>phX Γ nt all l st K)=_
   rw [phX_eq Γ nt all l];rfl
def opsX (P:Program) (Γ:Ty) (nt:Nt) (all:Array Oper):List Oper->St->(St->Prop)->Prop :=
 @List.rec Oper (fun _=>St->(St->Prop)->Prop) (fun st K=>K st) (fun o _ ih st K=>stepW P Γ nt all o st fun st=>ih st K)
theorem opsX_eq (P:Program) (Γ:Ty) (nt:Nt) (all:Array Oper):∀ l:List Oper,opsX P Γ nt all l=opsW P Γ nt all l
 | []=>rfl
 | o :: l=>by
   funext st K
   show (stepW P Γ nt all o st fun st=>opsX P Γ nt all l st K)=_
   rw [opsX_eq P Γ nt all l];rfl
def otX (P:Program) (Γ:Ty) (nt:Nt) (all:Array Oper):OT->St->(St->Prop)->Prop :=
 @OT.rec (fun _=>St->(St->Prop)->Prop) (fun st K=>K st)
  (fun l _ t st K=>phX Γ nt all l st fun st=>t st K)
  (fun i _ t st K=>atOp all i fun o=>stepW P Γ nt all o st fun st=>t st K)
  (fun i _ j _ t u st K=>Two (atOp all i fun o=>stepW P Γ nt all o st fun st=>t st K) (atOp all j fun o=>stepW P Γ nt all o st fun st=>u st K))
  (fun i _ t st K=>atOp all i fun o=>stepC P nt all o st fun st=>t st K)
  (fun i _ _ t m st K=>Two (atOp all i fun o=>stepW P Γ nt all o st fun st=>t st K) (m st K))
  (fun i _ _ t m st K=>Two (atOp all i fun o=>stepC P nt all o st fun st=>t st K) (m st K))
  (fun _ _=>True)
theorem otX_eq (P:Program) (Γ:Ty) (nt:Nt) (all:Array Oper):∀ l:OT,otX P Γ nt all l=otW P Γ nt all l
 | .fin=>rfl
 | .ph l t=>by
   funext st K
   show (phX Γ nt all l st fun st=>otX P Γ nt all t st K)=_
   rw [phX_eq,otX_eq P Γ nt all t];rfl
 | .st i t=>by
   funext st K
   show (atOp all i fun o=>stepW P Γ nt all o st fun st=>otX P Γ nt all t st K)=_
   rw [otX_eq P Γ nt all t];rfl
 | .alt i t j u=>by
   funext st K
   show Two (atOp all i fun o=>stepW P Γ nt all o st fun st=>otX P Γ nt all t st K) (atOp all j fun o=>stepW P Γ nt all o st fun st=>otX P Γ nt all u st K)=_
   rw [otX_eq P Γ nt all t,otX_eq P Γ nt all u];rfl
 | .qc i t=>by
   funext st K
   show (atOp all i fun o=>stepC P nt all o st fun st=>otX P Γ nt all t st K)=_
   rw [otX_eq P Γ nt all t];rfl
 | .way i t m=>by
   funext st K
   show Two (atOp all i fun o=>stepW P Γ nt all o st fun st=>otX P Γ nt all t st K) (otX P Γ nt all m st K)=_
   rw [otX_eq P Γ nt all t,otX_eq P Γ nt all m];rfl
 | .qw i t m=>by
   funext st K
   show Two (atOp all i fun o=>stepC P nt all o st fun st=>otX P Γ nt all t st K) (otX P Γ nt all m st K)=_
   rw [otX_eq P Γ nt all t,otX_eq P Γ nt all m];rfl
 | .non=>rfl
def seqW (y:St->(Ex->St->Prop)->Prop) (K:Ex->St->Prop):Ex->St->Prop
 | .normal,st=>y st K| .exit i,st=>K (.exit i) st| .ret,st=>K .ret st
theorem seqW_eq (y:St->(Ex->St->Prop)->Prop) (K:Ex->St->Prop):seqW y K=thenW K fun st=>y st K:=by
 funext e st
 cases e<;>rfl
def WX (P:Program) (Γ:Ty) (nt:Nt) (ords:Ords) (cuts:List Nat):Code->St->(Ex->St->Prop)->Prop :=
 @Code.rec (fun _=>St->(Ex->St->Prop)->Prop)
  (fun st K=>K .normal st)
  (fun id ops d st K=>match d with
    | false=>opsX P Γ nt ops ops.toList st (K .normal)
    | true=>match lkO ords id with
      | some t=>otX P Γ nt ops t st (K .normal)
      | none=>False)
  (fun a b x y st K=>match cutAt cuts a with
    | true=>CodeOK P nt (.seq a b) st K
    | false=>x st (seqW y K))
  (fun c _ _ x y st K=>match evD st.env c with
    | .lit true=>x st K| .lit false=>y st K| .bool b=>Br (b=true) (x st K) (b=false) (y st K)
    | _=>False)
  (fun id _ x st K=>x st (blockW id K))
  (fun b _ st K=>CodeOK P nt (.loop b) st K)
  (fun g ps x y _ _ st K=>CodeOK P nt (.rangeFunc g ps x y) st K)
  (fun id st K=>K (.exit id) st)
  (fun _ _ _ _=>False)
  (fun _ st K=>K .normal st)
  (fun _ _ _=>False)
  (fun st K=>K .ret st)
  (fun _ _ _=>False)
theorem WX_eq (P:Program) (Γ:Ty) (nt:Nt) (ords:Ords) (cuts:List Nat):∀ x:Code,WX P Γ nt ords cuts x=W P Γ nt ords cuts x
 | .skip=>rfl| .label _=>rfl
 | .region id ops false=>by
   funext st K
   show opsX P Γ nt ops ops.toList st (K .normal)=_
   rw [opsX_eq];rfl
 | .region id ops true=>by
   funext st K
   show (match lkO ords id with | some t=>otX P Γ nt ops t st (K .normal) | none=>False)=(match lkO ords id with | some t=>otW P Γ nt ops t st (K .normal) | none=>False)
   simp only [otX_eq]
 | .seq a b=>by
   funext st K
   show (match cutAt cuts a with | true=>CodeOK P nt (.seq a b) st K | false=>WX P Γ nt ords cuts a st (seqW (WX P Γ nt ords cuts b) K))=_
   rw [seqW_eq,WX_eq P Γ nt ords cuts a,WX_eq P Γ nt ords cuts b];rfl
 | .cond c a b=>by
   funext st K
   show (match evD st.env c with
    | .lit true=>WX P Γ nt ords cuts a st K| .lit false=>WX P Γ nt ords cuts b st K| .bool x=>Br (x=true) (WX P Γ nt ords cuts a st K) (x=false) (WX P Γ nt ords cuts b st K)
    | _=>False)=_
   rw [WX_eq P Γ nt ords cuts a,WX_eq P Γ nt ords cuts b];rfl
 | .block id b=>by
   funext st K
   show WX P Γ nt ords cuts b st (blockW id K)=_
   rw [WX_eq P Γ nt ords cuts b];rfl
 | .exit id=>rfl| .ret=>rfl| .loop b=>rfl| .rangeFunc ..=>rfl| .scope _=>rfl| .goto _=>rfl| .refuse _=>rfl
theorem WX_ok (H:TyOK P Γ) (hm:P.follows .mixedOrders=true) (x:Code) (st:St) (K:Ex->St->Prop) (ho:ordsOK ords x=true) (h:WX P Γ nt ords cuts x st K):CodeOK P nt x st K :=
 W_ok H hm x st K ho (by rw [<-WX_eq];exact h)
theorem CodeOK.seq {x y:Code} {K:Ex->St->Prop} {n:St->Prop} (hx:CodeOK P nt x st (thenW K n)) (hy:∀ st,n st->CodeOK P nt y st K):CodeOK P nt (.seq x y) st K :=
 ⟨fun c M a w R=>wp_seq (wp_mono (hx.ok c M a w R) (QK.then K _ fun c st M a w h R=>(hy st h).ok c M a w R))⟩
theorem CodeOK.mono {x:Code} {K K' : Ex->St->Prop} (hx:CodeOK P nt x st K) (hk:∀ e st,K e st->K' e st):CodeOK P nt x st K' :=
 ⟨fun c M a w R=>wp_mono (hx.ok c M a w R) (QK.mono hk)⟩
def Turn (nt:Nt) (st:St) (n:St->Prop):Prop:=∀ {Pc:Program} (c:Cx Pc) (M:Mi) (a:Act) (w:World),RelM c nt M st a w->∃ st' M',n st'/\RelM c nt M' st' a w
theorem CodeOK.turn {x:Code} {K:Ex->St->Prop} {n:St->Prop} (ht:Turn nt st n) (h:∀ st,n st->CodeOK P nt x st K):CodeOK P nt x st K :=
 ⟨fun c M a w R=>by obtain ⟨st',M',hn,R'⟩:=ht c M a w R;exact (h st' hn).ok c M' a w R'⟩
theorem CodeOK.cut {x y:Code} {K:Ex->St->Prop} {n:St->Prop} (hx:CodeOK P nt x st (thenW K fun st=>Turn nt st n)) (hy:∀ st,n st->CodeOK P nt y st K):CodeOK P nt (.seq x y) st K :=
 .seq hx fun _ ht=>.turn ht hy
theorem CodeOK.loop {b:Code} {K:Ex->St->Prop} {α:Type} (hd:α->St) (φ:α->Prop) (μ:α->Nat) (h0:Turn nt st fun st=>∃ x,φ x/\st=hd x)
 (hb:∀ x,φ x->CodeOK P nt b (hd x) (thenW K fun st=>Turn nt st fun st=>∃ y,(φ y/\μ y<μ x)/\st=hd y)):CodeOK P nt (.loop b) st K:=by
 refine .turn h0 fun st1 h1=>?_
 obtain ⟨x0,hφ,rfl⟩:=h1;refine ⟨fun c M a w R=>?_⟩;refine wp_loop_ghost (fun k a' w'=>∃ c' x M',CxE c c'/\φ x/\μ x=k/\RelM c' nt M' (hd x) a' w') (μ x0) ⟨c,x0,M,.refl c,hφ,rfl,R⟩ ?_
 rintro k a' w' ⟨c',x,M',hxc,hx,rfl,R'⟩
 refine wp_mono ((hb x hx).ok c' M' a' w' R') ?_;intro e a2 w2 h
 cases e with
 | normal =>
   obtain ⟨c2,st2,M2,hx2,h,R2⟩:=h;obtain ⟨st3,M3,⟨y,⟨hy,hlt⟩,rfl⟩,R3⟩:=h c2 M2 a2 w2 R2;exact ⟨μ y,hlt,c2,y,M3,hxc.trans hx2,hy,rfl,R3⟩
 | exit j=>exact QK.ext hxc _ _ _ h| ret=>exact QK.ext hxc _ _ _ h| goto l=>exact h.elim| panic ch=>exact h.elim| outgrown=>exact h.elim
end
end Sx
namespace Sx
open Go
abbrev Ren:=List (Nat × Option Nat)
def lkR:Ren->Nat->Option (Option Nat)
 | [],_=>none
 | (n,m) :: l,k=>match Nat.beq n k with
   | true=>some m| false=>lkR l k
def imR:Ren->Nat->Bool
 | [],_=>false
 | (_,some m') :: l,m=>match Nat.beq m' m with
   | true=>true| false=>imR l m
 | (_,none) :: l,m=>imR l m
def nameD (nxt:Nat) (n:Nat) (m:Option Nat) (r:Ren) (fz:List Nat) (K:Ren->List Nat->Prop):Prop :=
 match Nat.blt n nxt with
 | false=>False
 | true=>match lkR r n with
   | some none=>match m with
     | none=>K r fz| some _=>False
   | some (some m')=>match m with
     | none=>False
     | some m=>match Nat.beq m' m with
       | true=>K r fz| false=>False
   | none=>match m with
     | none=>K ((n,none) :: r) fz
     | some m=>match imR r m,memN m fz with
       | false,false=>K ((n,some m) :: r) fz| _,_=>False
def frzD (m:Nat) (r:Ren) (fz:List Nat) (K:Ren->List Nat->Prop):Prop :=
 match imR r m with
 | true=>False| false=>K r (m :: fz)
mutual
def mtD (nxt:Nat) (sto:Nat->Box):D->D->Bool->Ren->List Nat->(Ren->List Nat->Prop)->Prop
 | .any,_,_,r,fz,K=>K r fz
 | .int k n,cur,_,r,fz,K=>match cur with
   | .int k' n'=>match decide (k' = k) with
     | true=>Vc (n' = n) (K r fz)| false=>False
   | _=>False
 | .lit b,cur,_,r,fz,K=>match cur with
   | .lit b'=>Vc (b' = b) (K r fz)| .bool b'=>Vc (b' = b) (K r fz)| _=>False
 | .bool b,cur,_,r,fz,K=>match cur with
   | .lit b'=>Vc (b' = b) (K r fz)| .bool b'=>Vc (b' = b) (K r fz)| _=>False
 | .str s,cur,_,r,fz,K=>match cur with
   | .str s'=>Vc (s' = s) (K r fz)| _=>False
 | .nil,cur,_,r,fz,K=>match cur with
   | .nil=>K r fz| _=>False
 | .null,cur,_,r,fz,K=>match cur with
   | .null=>K r fz| _=>False
 | .val _,_,_,_,_,_=>False
 | .nilfn,cur,_,r,fz,K=>match cur with
   | .nilfn=>K r fz| _=>False
 | .tab sz n f,cur,_,r,fz,K=>match cur with
   | .nil=>Vc (n=0) (K r fz)
   | .tab sz' n' f'=>match Nat.beq sz' sz with
     | true=>Vc (n' = n/\∀ i,i<n->f' i=f i) (K r fz)| false=>False
   | .own m=>match sto m with
     | .arr _ sz' n' f'=>match Nat.beq sz' sz with
       | true=>Vc (n' = n/\∀ i,i<n->f' i=f i) (frzD m r fz K)| false=>False
     | .oar _ sz' n' f'=>match Nat.beq sz' sz with
       | true=>Vc (n' = n/\∀ i,i<n->f' i=f i) (frzD m r fz K)| false=>False
     | .fam _ sz' n' f'=>match Nat.beq sz' sz with
       | true=>Vc (n' = n/\∀ i,i<n->rddL (f' i)=f i) (frzD m r fz K)| false=>False
     | _=>False
   | _=>False
 | .agg l,cur,im,r,fz,K=>match cur with
   | .agg l'=>mtL nxt sto l l' im r fz K| _=>False
 | .vec n g,cur,_,r,fz,K=>match cur with
   | .vec n' g'=>match Nat.beq n' n with
     | true=>Vc (∀ i,i<n->g' i=g i/\(g i).immB=true) (K r fz)| false=>False
   | _=>False
 | .tup l,cur,im,r,fz,K=>match cur with
   | .tup l'=>mtL nxt sto l l' im r fz K| _=>False
 | .fn f l,cur,im,r,fz,K=>match cur with
   | .fn f' l'=>Vc (f' = f) (Cho (Vc (l' = l/\immL l=true) (K r fz)) (mtL nxt sto l l' im r fz K))| _=>False
 | .ref l,cur,_,r,fz,K=>match cur with
   | .ref l'=>mtL nxt sto l l' true r fz K
   | .loc m 0=>match sto m with
     | .var l'=>frzD m r fz fun r fz=>mtL nxt sto l l' true r fz K
     | _=>False
   | _=>False
 | .own n,cur,im,r,fz,K=>match im with
   | true=>False
   | false=>match cur with
     | .own m=>nameD nxt n (some m) r fz K| .nil=>nameD nxt n none r fz K| _=>False
 | .loc n o,cur,im,r,fz,K=>match im with
   | true=>False
   | false=>match cur with
     | .loc m o'=>match Nat.beq o' o with
       | true=>nameD nxt n (some m) r fz K| false=>False
     | _=>False
 | .pel n sz i o,cur,im,r,fz,K=>match im with
   | true=>False
   | false=>match cur with
     | .pel m sz' i' o'=>match Nat.beq sz' sz,Nat.beq o' o with
       | true,true=>Vc (i' = i) (nameD nxt n (some m) r fz K)| _,_=>False
     | _=>False
 | .ftab ..,_,_,_,_,_=>False| .foar ..,_,_,_,_,_=>False| .ffam ..,_,_,_,_,_=>False| .fbox _,_,_,_,_,_=>False
 | .rsl n sz off ln cp,cur,im,r,fz,K=>match im with
   | true=>False
   | false=>match cur with
     | .rsl m sz' off' ln' cp'=>match Nat.beq sz' sz with
       | true=>Vc (off' = off/\ln' = ln/\cp' = cp) (nameD nxt n (some m) r fz K)| false=>False
     | _=>False
 | .mref n,cur,im,r,fz,K=>match im with
   | true=>False
   | false=>match cur with
     | .mref m=>nameD nxt n (some m) r fz K| _=>False
 | .mapb l,cur,_,r,fz,K=>match cur with
   | .mapb l'=>Vc (l' = l) (K r fz)
   | .mref m=>match sto m with
     | .mp l'=>Vc (l' = l) (frzD m r fz K)| _=>False
   | _=>False
 | .fmap _,_,_,_,_,_=>False| .fmapd ..,_,_,_,_,_=>False
def mtL (nxt:Nat) (sto:Nat->Box):List D->List D->Bool->Ren->List Nat->(Ren->List Nat->Prop)->Prop
 | [],[],_,r,fz,K=>K r fz
 | d :: l,e :: l',im,r,fz,K=>mtD nxt sto d e im r fz fun r fz=>mtL nxt sto l l' im r fz K
 | _,_,_,_,_,_=>False
end
section
variable {Pc:Program} {c:Cx Pc} {M:Mi} {sto:Nat->Box} {nxt:Nat}
def Live (M:Mi) (sto:Nat->Box) (m b:Nat):Prop:=sto m≠.dead/\M.O m b
def Mren (M:Mi) (sto:Nat->Box) (r:Ren) (fz:List Nat) (nxt:Nat):Mi where
 ρ n:=match lkR r n with
   | some (some m)=>M.ρ m| _=>none
 hv n:=match lkR r n with
  | some (some m)=>M.hv m| _=>.slice none 0 0
 nx:=nxt
 S b:=M.S b\/∃ m,m ∈ fz/\Live M sto m b
 h:=M.h
 X n b:=match lkR r n with
   | some (some m)=>M.X m b| _=>False
structure RnOK (M:Mi) (r:Ren) (fz:List Nat):Prop where
 lt:∀ n m,lkR r n=some (some m)->m<M.nx
 inj:∀ n n' m,lkR r n=some (some m)->lkR r n' = some (some m)->n=n'
 dis:∀ n m,lkR r n=some (some m)->m ∉ fz
structure Ext (r:Ren) (fz:List Nat) (r' : Ren) (fz' : List Nat):Prop where
 r:∀ n o,lkR r n=some o->lkR r' n=some o
 fz:∀ m ∈ fz,m ∈ fz'
theorem Ext.refl (r:Ren) (fz:List Nat):Ext r fz r fz:=⟨fun _ _ h=>h,fun _ h=>h⟩
theorem Ext.trans {r r1 r2:Ren} {f f1 f2:List Nat} (A:Ext r f r1 f1) (B:Ext r1 f1 r2 f2):Ext r f r2 f2:=⟨fun n o h=>B.r n o (A.r n o h),fun m h=>B.fz m (A.fz m h)⟩
theorem imR_of:∀ {r:Ren} {n m:Nat},lkR r n=some (some m)->imR r m=true
 | [],_,_,h=>by simp [lkR] at h
 | (k,o) :: r,n,m,h=>by
   simp only [lkR] at h;split at h
   ·simp only [Option.some.injEq] at h;subst h;simp [imR]
   ·have:=imR_of h
    cases o with
    | none=>simpa [imR] using this
    | some m'=>simp only [imR];split<;>first | rfl | exact this
theorem lkR_cons {r:Ren} {n k:Nat} {o o' : Option Nat} (h:lkR ((n,o) :: r) k=some o'):(k=n/\o' = o)\/lkR r k=some o':=by
 simp only [lkR] at h;split at h
 ·rename_i e;exact .inl ⟨(nbq e).symm,by simpa using h.symm⟩
 ·exact .inr h
theorem lkR_head (r:Ren) (n:Nat) (o:Option Nat):lkR ((n,o) :: r) n=some o:=by simp [lkR]
theorem nameD_ok {n:Nat} {m:Option Nat} {r:Ren} {fz:List Nat} {K:Ren->List Nat->Prop} (h:nameD nxt n m r fz K) (hr:RnOK M r fz) (hm:∀ k,m=some k->k<M.nx) :
 ∃ r' fz',K r' fz'/\Ext r fz r' fz'/\RnOK M r' fz'/\lkR r' n=some m/\n<nxt:=by
 unfold nameD at h;split at h
 ·exact h.elim
 rename_i hlt
 have hlt:n<nxt:=by simpa [Nat.blt_eq] using hlt
 split at h
 ·rename_i hl;split at h
  ·exact ⟨r,fz,h,.refl _ _,hr,hl,hlt⟩
  ·exact h.elim
 ·rename_i m' hl;split at h
  ·exact h.elim
  ·split at h
   ·rename_i m e;have e:=nbq e;subst e;exact ⟨r,fz,h,.refl _ _,hr,hl,hlt⟩
   ·exact h.elim
 ·rename_i hl
  have up:∀ o,Ext r fz ((n,o) :: r) fz:=fun o=>⟨fun k o' hk=>by
   simp only [lkR];split
   ·rename_i e;have e:=nbq e;subst e;rw [hl] at hk;cases hk
   ·exact hk,fun _ h=>h⟩
  split at h
  ·refine ⟨_,fz,h,up _,⟨fun k m h1=>?_,fun k k' m h1 h2=>?_,fun k m h1=>?_⟩,lkR_head _ _ _,hlt⟩
   ·rcases lkR_cons h1 with ⟨_,h1⟩ | h1
    ·cases h1
    ·exact hr.lt k m h1
   ·rcases lkR_cons h1 with ⟨_,h1⟩ | h1
    ·cases h1
    ·rcases lkR_cons h2 with ⟨_,h2⟩ | h2
     ·cases h2
     ·exact hr.inj k k' m h1 h2
   ·rcases lkR_cons h1 with ⟨_,h1⟩ | h1
    ·cases h1
    ·exact hr.dis k m h1
  ·rename_i m;split at h
   ·rename_i h1 h2
    have hno:∀ k,lkR r k≠some (some m):=fun k hk=>by rw [imR_of hk] at h1;cases h1
    have hnf:m ∉ fz:=fun hm=>by rw [memN_iff.2 hm] at h2;cases h2
    refine ⟨_,fz,h,up _,⟨fun k m' e1=>?_,fun k k' m' e1 e2=>?_,fun k m' e1=>?_⟩,lkR_head _ _ _,hlt⟩
    ·rcases lkR_cons e1 with ⟨a1,a2⟩ | a1
     ·cases a2;exact hm _ rfl
     ·exact hr.lt k m' a1
    ·rcases lkR_cons e1 with ⟨a1,a2⟩ | a1
     ·cases a2
      rcases lkR_cons e2 with ⟨b1,b2⟩ | b1
      ·rw [a1,b1]
      ·exact absurd b1 (hno _)
     ·rcases lkR_cons e2 with ⟨b1,b2⟩ | b1
      ·cases b2;exact absurd a1 (hno _)
      ·exact hr.inj k k' m' a1 b1
    ·rcases lkR_cons e1 with ⟨a1,a2⟩ | a1
     ·cases a2;exact hnf
     ·exact hr.dis k m' a1
   ·exact h.elim
theorem frzD_ok {m:Nat} {r:Ren} {fz:List Nat} {K:Ren->List Nat->Prop} (h:frzD m r fz K) (hr:RnOK M r fz) :
 ∃ r' fz',K r' fz'/\Ext r fz r' fz'/\RnOK M r' fz'/\m ∈ fz':=by
 unfold frzD at h;split at h
 ·exact h.elim
 ·rename_i hi;refine ⟨r,m :: fz,h,⟨fun _ _ h=>h,fun _ h=>List.mem_cons_of_mem _ h⟩,⟨hr.lt,hr.inj,fun n k hk hm=>?_⟩,by simp⟩
  rcases List.mem_cons.1 hm with rfl | hm
  ·rw [imR_of hk] at hi;cases hi
  ·exact hr.dis n k hk hm
theorem Mren.le (M:Mi) (sto:Nat->Box) (r:Ren) (fz:List Nat) (nxt:Nat):M.Le (Mren M sto r fz nxt) true:=⟨fun _ h=>.inl h,fun _ _=>rfl,by simp,by simp,by simp,by simp⟩
def MtOK (M:Mi) (r:Ren) (fz:List Nat) (K:Ren->List Nat->Prop) (p:Ren->List Nat->Prop):Prop :=
 ∃ r' fz',K r' fz'/\Ext r fz r' fz'/\RnOK M r' fz'/\∀ r2 fz2,Ext r' fz' r2 fz2->p r2 fz2
theorem MtOK.same {r:Ren} {fz:List Nat} {K:Ren->List Nat->Prop} {p:Ren->List Nat->Prop} (hr:RnOK M r fz) (hk:K r fz) (h:∀ r2 fz2,p r2 fz2):MtOK M r fz K p :=
 ⟨r,fz,hk,.refl _ _,hr,fun _ _ _=>h _ _⟩
theorem MtOK.imp {r:Ren} {fz:List Nat} {K:Ren->List Nat->Prop} {p q:Ren->List Nat->Prop} (h:MtOK M r fz K p) (hpq:∀ r2 fz2,p r2 fz2->q r2 fz2):MtOK M r fz K q:=by
 obtain ⟨r',fz',a,b,c,d⟩:=h;exact ⟨r',fz',a,b,c,fun r2 fz2 h=>hpq _ _ (d r2 fz2 h)⟩
mutual
theorem mtD_ok (HM:Mem c M sto):∀ (hd cur:D) (v:Value) (im:Bool) (r:Ren) (fz:List Nat) (K:Ren->List Nat->Prop),Rd M false cur v->RnOK M r fz->mtD nxt sto hd cur im r fz K ->
 MtOK M r fz K fun r fz=>Rd (Mren M sto r fz nxt) im hd v
 | .any,cur,v,im,r,fz,K,hc,hr,h=>.same hr (by simpa only [mtD] using h) fun _ _=>by simp [Rd]
 | .int k n,cur,v,im,r,fz,K,hc,hr,h=>by
   simp only [mtD] at h;split at h
   ·split at h
    ·rename_i e;simp at e;subst e;obtain ⟨rfl,h⟩:=h
     exact .same hr h fun _ _=>by simpa only [Rd] using hc
    ·exact h.elim
   ·exact h.elim
 | .lit b,cur,v,im,r,fz,K,hc,hr,h | .bool b,cur,v,im,r,fz,K,hc,hr,h=>by
   simp only [mtD] at h;split at h
   ·obtain ⟨rfl,h⟩:=h
    exact .same hr h fun _ _=>by simpa only [Rd] using hc
   ·obtain ⟨rfl,h⟩:=h
    exact .same hr h fun _ _=>by simpa only [Rd] using hc
   ·exact h.elim
 | .str s,cur,v,im,r,fz,K,hc,hr,h=>by
   simp only [mtD] at h;split at h
   ·obtain ⟨rfl,h⟩:=h
    exact .same hr h fun _ _=>by simpa only [Rd] using hc
   ·exact h.elim
 | .nil,cur,v,im,r,fz,K,hc,hr,h | .null,cur,v,im,r,fz,K,hc,hr,h | .nilfn,cur,v,im,r,fz,K,hc,hr,h=>by
   simp only [mtD] at h;split at h
   ·exact .same hr h fun _ _=>by simpa only [Rd] using hc
   ·exact h.elim
 | .tab sz n f,cur,v,im,r,fz,K,hc,hr,h=>by
   simp only [mtD] at h;split at h
   ·obtain ⟨rfl,h⟩:=h
    exact .same hr h fun _ _=>Rd.nil_tab (by simpa only [Rd] using hc) sz f
   ·split at h
    ·rename_i e;have e:=nbq e;subst e;obtain ⟨⟨rfl,hf⟩,h⟩:=h
     refine .same hr h fun r2 fz2=>?_
     have hc1:=Rd.mono (Mren.le M sto r2 fz2 nxt) _ _ (Rd.immB (d:=.tab _ _ _) rfl hc);simp only [Rd] at hc1 ⊢;obtain ⟨a,cap,rfl,hn,hc'⟩:=hc1;refine ⟨a,cap,rfl,hn,fun i hi=>?_⟩;rw [<-hf i hi];exact hc' i hi
    ·exact h.elim
   ·rename_i m;split at h
    ·rename_i e sz' n' f' hs;split at h
     ·rename_i e2;have e2:=nbq e2;subst e2;obtain ⟨⟨rfl,hf⟩,h⟩:=h;obtain ⟨r',fz',hk,he,hr',hm⟩:=frzD_ok h hr;refine ⟨r',fz',hk,he,hr',fun r2 fz2 he2=>?_⟩;simp only [Rd] at hc;obtain ⟨_,hmn,rfl,_⟩:=hc;have hb:=HM.box m hmn;rw [hs] at hb;obtain ⟨xs,o1,o2,o3,o4⟩:=hb;simp only [Rd]
      rcases o1.2 with ⟨hnil,hn0⟩ | ⟨b,cap,cur,hg,hblk,hnc,hcm,hcs,ht⟩
      ·exact ⟨none,0,by rw [hnil,hn0],by omega,fun i hi=>by omega⟩
      ·have hρ:M.ρ m=some b:=by rw [o2,hg];rfl
       refine ⟨some ⟨b,0,none⟩,cap,hg,hnc,fun i hi=>⟨b,0,rfl,.inr ⟨m,he2.fz m hm,by rw [hs];simp,.inl hρ⟩,(xs.drop (i*sz')).take sz',(arr_cells o1.1 hi (o1.cells (by rw [hg];rfl))).1,?_,?_⟩⟩
       ·intro j hj;have:=(arr_cells o1.1 hi (o1.cells (by rw [hg];rfl))).2 j hj;rw [Nat.zero_add];exact this
       ·rw [<-hf i hi];exact RdL.mono (Mren.le M sto r2 fz2 nxt) _ _ (o3 i hi)
     ·exact h.elim
    ·rename_i e sz' n' f' hs;split at h
     ·rename_i e2;have e2:=nbq e2;subst e2;obtain ⟨⟨rfl,hf⟩,h⟩:=h;obtain ⟨r',fz',hk,he,hr',hm⟩:=frzD_ok h hr;refine ⟨r',fz',hk,he,hr',fun r2 fz2 he2=>?_⟩;simp only [Rd] at hc;obtain ⟨_,hmn,rfl,_⟩:=hc;have hb:=HM.box m hmn;rw [hs] at hb;obtain ⟨xs,o1,o2,o3,o4⟩:=hb;simp only [Rd]
      rcases o1.2 with ⟨hnil,hn0⟩ | ⟨b,o,cap,cur,hg,hblk,hnc,hcm,hcs,ht⟩
      ·exact ⟨none,0,by rw [hnil,hn0],by omega,fun i hi=>by omega⟩
      ·have hρ:M.ρ m=some b:=by rw [o2,hg];rfl
       have hcl:=o1.cells (b:=b) (by rw [hg];rfl);rw [show hoff (M.hv m)=o by rw [hg];rfl] at hcl;refine ⟨some ⟨b,o,none⟩,cap,hg,hnc,fun i hi=>⟨b,o,rfl,.inr ⟨m,he2.fz m hm,by rw [hs];simp,.inl hρ⟩,(xs.drop (i*sz')).take sz',(arr_cellsO o1.1 hi hcl).1,?_,?_⟩⟩
       ·exact (arr_cellsO o1.1 hi hcl).2
       ·rw [<-hf i hi];exact RdL.mono (Mren.le M sto r2 fz2 nxt) _ _ (o3 i hi)
     ·exact h.elim
    ·rename_i e sz' n' f' hs;split at h
     ·rename_i e2;have e2:=nbq e2;subst e2;obtain ⟨⟨rfl,hf⟩,h⟩:=h;obtain ⟨r',fz',hk,he,hr',hm⟩:=frzD_ok h hr;refine ⟨r',fz',hk,he,hr',fun r2 fz2 he2=>?_⟩;simp only [Rd] at hc;obtain ⟨_,hmn,rfl,_⟩:=hc;have hb:=HM.box m hmn;rw [hs] at hb;obtain ⟨xs,Fs,o1,o2,o3,o4,o5,o6,o7⟩:=hb
      have hd:sto m≠.dead:=by rw [hs];simp
      refine own_tab (M:=Mren M sto r2 fz2 nxt) o1 rfl (fun b hb=>.inr ⟨m,he2.fz m hm,hd,.inl (by rw [o2];exact hb)⟩) fun i hi=>?_
      rw [<-hf i hi]
      have:=(o3 i hi).rdd (S':=(Mren M sto r2 fz2 nxt).S) (fun _ h=>.inl h) fun b hb=>.inr ⟨m,he2.fz m hm,hd,.inr ((o6 b).2 (rowsF_in hi hb))⟩
      have hl3:(MiS (Mren M sto r2 fz2 nxt).S M.h).Le (Mren M sto r2 fz2 nxt) true:=⟨fun _ h=>h,fun _ _=>rfl,by simp,by simp,by simp,by simp⟩;exact RdL.mono hl3 _ _ this
     ·exact h.elim
    ·exact h.elim
   ·exact h.elim
 | .agg l,cur,v,im,r,fz,K,hc,hr,h=>by
   simp only [mtD] at h;split at h
   ·simp only [Rd] at hc;obtain ⟨cs,rfl,hc⟩:=hc
    exact (mtL_ok HM l _ cs.toList im r fz K hc hr h).imp fun r2 fz2 hp=>by simp only [Rd];exact ⟨cs,rfl,hp⟩
   ·exact h.elim
 | .vec n g,cur,v,im,r,fz,K,hc,hr,h=>by
   simp only [mtD] at h;split at h
   ·split at h
    ·rename_i e;have e:=nbq e;subst e;obtain ⟨hg,h⟩:=h;simp only [Rd] at hc;obtain ⟨cs,rfl,hs,hc⟩:=hc
     refine .same hr h fun r2 fz2=>?_
     simp only [Rd];refine ⟨cs,rfl,hs,fun i x hx=>?_⟩;have hi:=(Array.getElem?_eq_some_iff.1 hx).1;rw [hs] at hi;have h1:=hc i x hx;rw [(hg i hi).1] at h1;exact ⟨h1.1,Rd.im _ _ im (Rd.mono (Mren.le M sto r2 fz2 nxt) _ _ (Rd.immB (hg i hi).2 h1.2))⟩
    ·exact h.elim
   ·exact h.elim
 | .tup l,cur,v,im,r,fz,K,hc,hr,h=>by
   simp only [mtD] at h;split at h
   ·simp only [Rd] at hc;obtain ⟨cs,rfl,hc⟩:=hc
    exact (mtT_ok HM l _ cs.toList im r fz K hc hr h).imp fun r2 fz2 hp=>by simp only [Rd];exact ⟨cs,rfl,hp⟩
   ·exact h.elim
 | .fn f l,cur,v,im,r,fz,K,hc,hr,h=>by
   simp only [mtD] at h;split at h
   ·obtain ⟨rfl,h⟩:=h;simp only [Rd] at hc;obtain ⟨cs,rfl,hc⟩:=hc
    rcases h with ⟨⟨rfl,hi⟩,h⟩ | h
    ·exact .same hr h fun r2 fz2=>by
      simp only [Rd];exact ⟨cs,rfl,RdL.im _ _ _ (RdL.mono (Mren.le M sto r2 fz2 nxt) _ _ (RdL.immL hi hc))⟩
    ·exact (mtL_ok HM l _ cs.toList im r fz K hc hr h).imp fun r2 fz2 hp=>by simp only [Rd];exact ⟨cs,rfl,hp⟩
   ·exact h.elim
 | .ref l,cur,v,im,r,fz,K,hc,hr,h=>by
   simp only [mtD] at h;split at h
   ·simp only [Rd] at hc;obtain ⟨b,off,rfl,hS,vs,h1,h2⟩:=hc
    exact (mtL_ok HM l _ vs true r fz K (RdL.im _ _ _ h2) hr h).imp fun r2 fz2 hp=>by simp only [Rd];exact ⟨b,off,rfl,.inl hS,vs,h1,hp⟩
   ·rename_i m;split at h
    ·rename_i l' hs;obtain ⟨r',fz',hk,he,hr',hm⟩:=frzD_ok h hr;simp only [Rd] at hc;obtain ⟨_,hmn,b,hρ,rfl⟩:=hc;have hb:=HM.box m hmn;rw [hs] at hb;obtain ⟨b',cs,ty,h1,h2,h3⟩:=hb;rw [hρ] at h1;cases h1;obtain ⟨r2,fz2,a1,a2,a3,a4⟩:=mtL_ok HM l l' cs.toList true r' fz' K h3 hr' hk;refine ⟨r2,fz2,a1,he.trans a2,a3,fun r3 fz3 he3=>?_⟩;simp only [Rd];refine ⟨b,0,rfl,.inr ⟨m,he3.fz m (a2.fz m hm),by rw [hs];simp,.inl hρ⟩,cs.toList,?_,a4 r3 fz3 he3⟩;intro j hj;have:=cells_block h2 0 j (by simpa using hj);rw [List.drop_zero] at this;exact this
    ·exact h.elim
   ·exact h.elim
 | .own n,cur,v,im,r,fz,K,hc,hr,h=>by
   simp only [mtD] at h;split at h
   ·exact h.elim
   ·split at h
    ·rename_i m;simp only [Rd] at hc;obtain ⟨r',fz',hk,he,hr',hl,hn⟩:=nameD_ok h hr (fun k e=>by cases e;exact hc.2.1);refine ⟨r',fz',hk,he,hr',fun r2 fz2 he2=>?_⟩;simp only [Rd];exact ⟨trivial,hn,by simp only [Mren,he2.r n _ hl];exact hc.2.2.1,hc.2.2.2⟩
    ·obtain ⟨r',fz',hk,he,hr',hl,hn⟩:=nameD_ok h hr nofun;refine ⟨r',fz',hk,he,hr',fun r2 fz2 he2=>?_⟩;simp only [Rd] at hc ⊢;exact ⟨trivial,hn,by simp only [Mren,he2.r n _ hl];exact hc,none,0,0,hc⟩
    ·exact h.elim
 | .loc n o,cur,v,im,r,fz,K,hc,hr,h=>by
   simp only [mtD] at h;split at h
   ·exact h.elim
   ·split at h
    ·split at h
     ·rename_i m o' e;have e:=nbq e;subst e;simp only [Rd] at hc;obtain ⟨r',fz',hk,he,hr',hl,hn⟩:=nameD_ok h hr (fun k e=>by cases e;exact hc.2.1);refine ⟨r',fz',hk,he,hr',fun r2 fz2 he2=>?_⟩;simp only [Rd];obtain ⟨_,_,b,h1,h2⟩:=hc;exact ⟨trivial,hn,b,by simp only [Mren,he2.r n _ hl];exact h1,h2⟩
     ·exact h.elim
    ·exact h.elim
 | .pel n sz i o,cur,v,im,r,fz,K,hc,hr,h=>by
   simp only [mtD] at h;split at h
   ·exact h.elim
   ·split at h
    ·split at h
     ·rename_i m sz' i' o' e1 e2;have e1:=nbq e1;have e2:=nbq e2;subst e1 e2;obtain ⟨rfl,h⟩:=h;simp only [Rd] at hc;obtain ⟨r',fz',hk,he,hr',hl,hn⟩:=nameD_ok h hr (fun k e=>by cases e;exact hc.2.1);refine ⟨r',fz',hk,he,hr',fun r2 fz2 he2=>?_⟩;simp only [Rd];obtain ⟨_,_,b,h1,h2⟩:=hc;exact ⟨trivial,hn,b,by simp only [Mren,he2.r n _ hl];exact h1,by simp only [Mren,he2.r n _ hl];exact h2⟩
     ·exact h.elim
    ·exact h.elim
 | .val _,cur,v,im,r,fz,K,hc,hr,h | .ftab ..,cur,v,im,r,fz,K,hc,hr,h | .foar ..,cur,v,im,r,fz,K,hc,hr,h | .fbox _,cur,v,im,r,fz,K,hc,hr,h | .fmap _,cur,v,im,r,fz,K,hc,hr,h | .fmapd ..,cur,v,im,r,fz,K,hc,hr,h=>by simp [mtD] at h
 | .rsl n sz off ln cp,cur,v,im,r,fz,K,hc,hr,h=>by
   simp only [mtD] at h;split at h
   ·exact h.elim
   ·split at h
    ·split at h
     ·rename_i m sz' off' ln' cp' e1;have e1:=nbq e1;subst e1;obtain ⟨⟨rfl,rfl,rfl⟩,h⟩:=h;simp only [Rd] at hc;obtain ⟨r',fz',hk,he,hr',hl,hn⟩:=nameD_ok h hr (fun k e=>by cases e;exact hc.2.1);refine ⟨r',fz',hk,he,hr',fun r2 fz2 he2=>?_⟩;simp only [Rd];obtain ⟨_,_,b,h1,h2⟩:=hc;exact ⟨trivial,hn,b,by simp only [Mren,he2.r n _ hl];exact h1,h2⟩
     ·exact h.elim
    ·exact h.elim
 | .mref n,cur,v,im,r,fz,K,hc,hr,h=>by
   simp only [mtD] at h;split at h
   ·exact h.elim
   ·split at h
    ·rename_i m;simp only [Rd] at hc;obtain ⟨r',fz',hk,he,hr',hl,hn⟩:=nameD_ok h hr (fun k e=>by cases e;exact hc.2.1);refine ⟨r',fz',hk,he,hr',fun r2 fz2 he2=>?_⟩;simp only [Rd];obtain ⟨_,_,b,h1,h2⟩:=hc;exact ⟨trivial,hn,b,by simp only [Mren,he2.r n _ hl];exact h1,h2⟩
    ·exact h.elim
 | .mapb l,cur,v,im,r,fz,K,hc,hr,h=>by
   simp only [mtD] at h;split at h
   ·obtain ⟨rfl,h⟩:=h
    refine .same hr h fun r2 fz2=>?_
    have hc1:=Rd.mono (Mren.le M sto r2 fz2 nxt) _ _ (Rd.immB (d:=.mapb _) rfl hc);simpa only [Rd] using hc1
   ·rename_i m;split at h
    ·rename_i l' hs;obtain ⟨rfl,h⟩:=h;obtain ⟨r',fz',hk,he,hr',hm⟩:=frzD_ok h hr;simp only [Rd] at hc;obtain ⟨_,hmn,b,hρ,rfl⟩:=hc;have hb:=HM.box m hmn;rw [hs] at hb;obtain ⟨b',h1,h2⟩:=hb;rw [hρ] at h1;cases h1;refine ⟨r',fz',hk,he,hr',fun r2 fz2 he2=>?_⟩;simp only [Rd];exact ⟨b,rfl,.inr ⟨m,he2.fz m hm,by rw [hs];simp,.inl hρ⟩,h2⟩
    ·exact h.elim
   ·exact h.elim
theorem mtL_ok (HM:Mem c M sto):∀ (hd cur:List D) (vs:List Value) (im:Bool) (r:Ren) (fz:List Nat) (K:Ren->List Nat->Prop),RdL M false cur vs->RnOK M r fz->mtL nxt sto hd cur im r fz K ->
 MtOK M r fz K fun r fz=>RdL (Mren M sto r fz nxt) im hd vs
 | [],[],[],im,r,fz,K,hc,hr,h=>.same hr (by simpa only [mtL] using h) fun _ _=>by simp [RdL]
 | d :: l,e :: l',v :: vs,im,r,fz,K,hc,hr,h=>by
   simp only [mtL] at h;simp only [RdL] at hc;obtain ⟨r1,f1,h,e1,hr1,p1⟩:=mtD_ok HM d e v im r fz _ hc.2.1 hr h;obtain ⟨r2,f2,h,e2,hr2,p2⟩:=mtL_ok HM l l' vs im r1 f1 K hc.2.2 hr1 h;exact ⟨r2,f2,h,e1.trans e2,hr2,fun r3 f3 e3=>by simp only [RdL];exact ⟨hc.1,p1 r3 f3 (e2.trans e3),p2 r3 f3 e3⟩⟩
 | [],_ :: _,_,im,r,fz,K,hc,hr,h | _ :: _,[],_,im,r,fz,K,hc,hr,h=>by simp [mtL] at h
 | [],[],_ :: _,im,r,fz,K,hc,hr,h | _ :: _,_ :: _,[],im,r,fz,K,hc,hr,h=>by simp [RdL] at hc
theorem mtT_ok (HM:Mem c M sto):∀ (hd cur:List D) (vs:List Value) (im:Bool) (r:Ren) (fz:List Nat) (K:Ren->List Nat->Prop),RdT M false cur vs->RnOK M r fz->mtL nxt sto hd cur im r fz K ->
 MtOK M r fz K fun r fz=>RdT (Mren M sto r fz nxt) im hd vs
 | [],[],[],im,r,fz,K,hc,hr,h=>.same hr (by simpa only [mtL] using h) fun _ _=>by simp [RdT]
 | d :: l,e :: l',v :: vs,im,r,fz,K,hc,hr,h=>by
   simp only [mtL] at h;simp only [RdT] at hc;obtain ⟨r1,f1,h,e1,hr1,p1⟩:=mtD_ok HM d e v im r fz _ hc.1 hr h;obtain ⟨r2,f2,h,e2,hr2,p2⟩:=mtT_ok HM l l' vs im r1 f1 K hc.2 hr1 h;exact ⟨r2,f2,h,e1.trans e2,hr2,fun r3 f3 e3=>by simp only [RdT];exact ⟨p1 r3 f3 (e2.trans e3),p2 r3 f3 e3⟩⟩
 | [],_ :: _,_,im,r,fz,K,hc,hr,h | _ :: _,[],_,im,r,fz,K,hc,hr,h=>by simp [mtL] at h
 | [],[],_ :: _,im,r,fz,K,hc,hr,h | _ :: _,_ :: _,[],im,r,fz,K,hc,hr,h=>by simp [RdT] at hc
end
def mtE (nxt:Nat) (sto:Nat->Box) (env:Nat->D):List (Nat × D)->Ren->List Nat->(Ren->List Nat->Prop)->Prop
 | [],r,fz,K=>K r fz
 | (t,d) :: l,r,fz,K=>(env t).force fun cur=>mtD nxt sto d cur false r fz fun r fz=>mtE nxt sto env l r fz K
def mtB (nxt:Nat) (sto:Nat->Box) (n:Nat) (hb:Box) (r:Ren) (fz:List Nat) (K:Ren->List Nat->Prop):Prop :=
 match lkR r n with
 | none=>match hb with
   | .ghs V sl=>match sto n with
     | .gho V' g=>nameD nxt n (some n) r fz fun r fz=>Vc (V' = V) (mtE nxt sto g sl r fz K)
     | .ghs V' sl'=>nameD nxt n (some n) r fz fun r fz=>Vc (V' = V) (mtE nxt sto (lkE sl') sl r fz K)
     | _=>False
   | _=>False
 | some none=>match hb with
   | .arr _ _ k _=>Vc (k=0) (K r fz)| .oar _ _ k _=>Vc (k=0) (K r fz)| .fam _ _ k _=>Vc (k=0) (K r fz)| _=>False
 | some (some m)=>match hb with
   | .dead=>K r fz
   | .var l=>match sto m with
     | .var l'=>mtL nxt sto l l' false r fz K| _=>False
   | .vec k g=>match sto m with
     | .vec k' g'=>match Nat.beq k' k with
       | true=>Vc (∀ i,i<k->g' i=g i/\(g i).immB=true) (K r fz)| false=>False
     | _=>False
   | .arr e sz k f=>match sto m with
     | .arr e' sz' k' f'=>match Nat.beq e' e,Nat.beq sz' sz with
       | true,true=>Vc (k' = k/\∀ i,i<k->f' i=f i) (K r fz)| _,_=>False
     | .hot e' k' f' i _=>match Nat.beq e' e,Nat.beq sz 1 with
       | true,true=>Vc (k' = k/\k<=i/\∀ j,j<k->f' j=f j) (K r fz)| _,_=>False
     | _=>False
   | .gho ..=>False
   | .bld ty u q=>match sto m with
     | .bld ty' u' q'=>match Nat.beq ty' ty with
       | true=>Vc (u' = u) (mtD nxt sto q q' false r fz K)| false=>False
     | _=>False
   | .blk e sz cap kn f=>match sto m with
     | .blk e' sz' cap' kn' f'=>match Nat.beq e' e,Nat.beq sz' sz with
       | true,true=>Vc (cap' = cap/\kn<=kn'/\∀ i,i<kn->f' i=f i) (K r fz)| _,_=>False
     | _=>False
   | .mp l=>match sto m with
     | .mp l'=>Vc (l' = l) (K r fz)| _=>False
   | .hot e k f i d=>match sto m with
     | .arr e' sz' k' f'=>match Nat.beq e' e,Nat.beq sz' 1,d with
       | true,true,.any=>Vc (k' = k/\∀ j,j<k->j<i->f' j=f j) (K r fz)| _,_,_=>False
     | .hot e' k' f' i' d'=>match Nat.beq e' e with
       | true=>Br (decide (i=i')=true) (Vc (k' = k/\i' < k/\∀ j,j<k->j<i'->f' j=f j) (mtD nxt sto d d' false r fz K))
        (decide (i=i')=false) (Vc (k' = k/\i=i' + 1/\i' < k/\∀ j,j<k->j<i'->f' j=f j) (match d with
          | .any=>mtL nxt sto (f i') [d'] true r fz K
          | _=>False))
       | false=>False
     | _=>False
   | .ghs V sl=>match sto m with
     | .gho V' g=>Vc (V' = V) (mtE nxt sto g sl r fz K)| .ghs V' sl'=>Vc (V' = V) (mtE nxt sto (lkE sl') sl r fz K)| _=>False
   | .oar e sz k f=>match sto m with
     | .arr e' sz' k' f'=>match Nat.beq e' e,Nat.beq sz' sz with
       | true,true=>Vc (k' = k/\∀ i,i<k->f' i=f i) (K r fz)| _,_=>False
     | .oar e' sz' k' f'=>match Nat.beq e' e,Nat.beq sz' sz with
       | true,true=>Vc (k' = k/\∀ i,i<k->f' i=f i) (K r fz)| _,_=>False
     | _=>False
   | .mpe _ _ _=>False
   | .sar e sz k f=>match sto m with
     | .sar e' sz' k' f'=>match Nat.beq e' e,Nat.beq sz' sz with
       | true,true=>Vc (k' = k/\∀ i,i<k->f' i=f i) (K r fz)| _,_=>False
     | .arr e' sz' k' f'=>match Nat.beq e' e,Nat.beq sz' sz with
       | true,true=>Vc (k' = k/\∀ i,i<k->f' i=f i) (K r fz)| _,_=>False
     | _=>False
   | .mpd sk kn l=>match sto m with
     | .mpd sk' kn' l'=>match bEq sk' sk,Nat.beq kn' kn with
       | true,true=>Vc (MpdLe l' l) (K r fz)| _,_=>False
     | _=>False
   | .famx ..=>False
   | .fam e sz k f=>match sto m with
     | .fam e' sz' k' f'=>match Nat.beq e' e,Nat.beq sz' sz with
       | true,true=>Vc (k' = k/\∀ i,i<k->LeF (f' i) (f i)) (K r fz)| _,_=>False
     | .arr e' sz' k' f'=>match Nat.beq e' e,Nat.beq sz' sz with
       | true,true=>Vc (k' = k/\∀ i,i<k->LeF (f' i) (f i)) (K r fz)| _,_=>False
     | _=>False
   | .mit kn l la=>match sto m with
     | .mit kn' l' _=>match Nat.beq kn' kn,la with
       | true,none=>Vc (l' = l) (K r fz)| _,_=>False
     | _=>False
def mtBs (nxt:Nat) (sto:Nat->Box):List (Nat × Box)->Ren->List Nat->(Ren->List Nat->Prop)->Prop
 | [],r,fz,K=>K r fz
 | (n,hb) :: l,r,fz,K=>mtB nxt sto n hb r fz fun r fz=>mtBs nxt sto l r fz K
def lkB:List (Nat × Box)->Nat->Box
 | [],_=>.dead
 | (t,d) :: l,k=>match Nat.beq t k with
   | true=>d| false=>lkB l k
def mkSt (sl:List (Nat × D)) (bx:List (Nat × Box)) (nxt:Nat):St:=⟨lkE sl,lkB bx,nxt⟩
def allLt (nxt:Nat):List (Nat × Box)->Bool
 | []=>true
 | (n,_) :: l=>match Nat.blt n nxt with
   | true=>allLt nxt l| false=>false
def mtS0 (st:St) (sl:List (Nat × D)) (bx:List (Nat × Box)) (nxt:Nat):Prop :=
 match allLt nxt bx with
 | true=>mtE nxt st.sto st.env sl [] [] fun r fz=>mtBs nxt st.sto bx r fz fun _ _=>True
 | false=>False
def mtS (st:St) (sl:List (Nat × D)) (bx:List (Nat × Box)) (nxt:Nat):Prop:=closeN st.nxt st fun st=>mtS0 st sl bx nxt
theorem mtV_ok (HM:Mem c M sto) {env:Nat->D} {V:Nat->Value} (he:∀ t,Rd M false (env t) (V t)):∀ (sl:List (Nat × D)) (r:Ren) (fz:List Nat) (K:Ren->List Nat->Prop),RnOK M r fz->mtE nxt sto env sl r fz K ->
 MtOK M r fz K fun r fz=>∀ t,Rd (Mren M sto r fz nxt) false (lkE sl t) (V t)
 | [],r,fz,K,hr,h=>.same hr h fun _ _ _=>by simp [lkE,Rd]
 | (t,d) :: sl,r,fz,K,hr,h=>by
   simp only [mtE,force_eq] at h;obtain ⟨r1,f1,h,e1,hr1,p1⟩:=mtD_ok HM d (env t) _ false r fz _ (he t) hr h;obtain ⟨r2,f2,h,e2,hr2,p2⟩:=mtV_ok HM he sl r1 f1 K hr1 h;refine ⟨r2,f2,h,e1.trans e2,hr2,fun r3 f3 e3 k=>?_⟩;simp only [lkE];split
   ·rename_i e;have e:=nbq e;subst e;exact p1 r3 f3 (e2.trans e3)
   ·exact p2 r3 f3 e3 k
theorem mtB_ok (HM:Mem c M sto) {n:Nat} {hb:Box} {r:Ren} {fz:List Nat} {K:Ren->List Nat->Prop} (hr:RnOK M r fz) (h:mtB nxt sto n hb r fz K) :
 MtOK M r fz K fun r fz=>BoxOK (Mren M sto r fz nxt) n hb/\(hb≠.dead->∀ m,lkR r n=some (some m)->sto m≠.dead/\(hb.isFam=false->(sto m).isFam=false)):=by
 unfold mtB at h;split at h
 ·split at h
  case h_2=>exact h.elim
  rename_i V sl
  have key:∀ (g:Nat->D) (V' : Nat->Value),sto n≠.dead->(sto n).isFam=false->M.ρ n=none->(∀ t,Rd M false (g t) (V' t))->(nameD nxt n (some n) r fz fun r fz=>Vc (V' = V) (mtE nxt sto g sl r fz K)) ->
   MtOK M r fz K fun r fz=>BoxOK (Mren M sto r fz nxt) n (.ghs V sl)/\(Box.ghs V sl≠.dead->∀ m,lkR r n=some (some m)->sto m≠.dead/\((Box.ghs V sl).isFam=false->(sto m).isFam=false)):=fun g V' hd hfm h1 h2 h=>by
   obtain ⟨r1,f1,hq,x1,hr1,hl,_⟩:=nameD_ok h hr fun k hk=>by cases hk;exact HM.lt hd
   clear h;obtain ⟨rfl,hq⟩:=hq;obtain ⟨r',fz',a1,a2,a3,a4⟩:=mtV_ok HM h2 sl r1 f1 K hr1 hq;exact ⟨r',fz',a1,x1.trans a2,a3,fun r2 fz2 he=>⟨⟨by simp only [Mren,he.r n _ (a2.r n _ hl)];exact h1,a4 r2 fz2 he⟩,fun _ k hk=>by rw [he.r n _ (a2.r n _ hl)] at hk;cases hk;exact ⟨hd,fun _=>hfm⟩⟩⟩
  split at h
  ·rename_i V' g hs
   have hd:sto n≠.dead:=by rw [hs];simp
   have hb0:=HM.box n (HM.lt hd);rw [hs] at hb0;exact key g V' hd (by rw [hs];rfl) hb0.1 hb0.2 h
  ·rename_i V' sl' hs
   have hd:sto n≠.dead:=by rw [hs];simp
   have hb0:=HM.box n (HM.lt hd);rw [hs] at hb0;exact key (lkE sl') V' hd (by rw [hs];rfl) hb0.1 hb0.2 h
  ·exact h.elim
 ·rename_i hl;split at h
  ·rename_i e sz k f;obtain ⟨rfl,h⟩:=h;refine ⟨r,fz,h,.refl _ _,hr,fun r2 fz2 he=>⟨⟨[],⟨by simp,.inl ⟨?_,rfl⟩⟩,?_,nofun,nofun⟩,fun _ m hm=>by rw [he.r n _ hl] at hm;cases hm⟩⟩
   ·simp only [Mren,he.r n _ hl]
   ·simp only [Mren,he.r n _ hl];rfl
  ·rename_i e sz k f;obtain ⟨rfl,h⟩:=h;refine ⟨r,fz,h,.refl _ _,hr,fun r2 fz2 he=>⟨⟨[],⟨by simp,.inl ⟨?_,rfl⟩⟩,?_,nofun,nofun⟩,fun _ m hm=>by rw [he.r n _ hl] at hm;cases hm⟩⟩
   ·simp only [Mren,he.r n _ hl]
   ·simp only [Mren,he.r n _ hl];rfl
  ·rename_i e sz k f;obtain ⟨rfl,h⟩:=h;refine ⟨r,fz,h,.refl _ _,hr,fun r2 fz2 he=>⟨⟨[],fun _=>[],⟨by simp,.inl ⟨?_,rfl⟩⟩,?_,nofun,nofun,by simp [rowsF],fun b=>?_,by simp [rowsF]⟩,fun _ m hm=>by rw [he.r n _ hl] at hm;cases hm⟩⟩
   ·simp only [Mren,he.r n _ hl]
   ·simp only [Mren,he.r n _ hl];rfl
   ·simp only [Mren,he.r n _ hl];simp [rowsF]
  ·exact h.elim
 ·rename_i m hl;have hm:=hr.lt n m hl;have hb0:=HM.box m hm;split at h
  ·exact .same hr h fun _ _=>⟨trivial,fun h=>absurd rfl h⟩
  ·split at h
   ·rename_i l _ l' hs;rw [hs] at hb0;obtain ⟨b,cs,ty,h1,h2,h3⟩:=hb0;obtain ⟨r',fz',a1,a2,a3,a4⟩:=mtL_ok HM l l' cs.toList false r fz K h3 hr h;exact ⟨r',fz',a1,a2,a3,fun r2 fz2 he=>⟨⟨b,cs,ty,by simp only [Mren,he.r n _ (a2.r n _ hl)];exact h1,h2,a4 r2 fz2 he⟩,fun _ k hk=>by rw [he.r n _ (a2.r n _ hl)] at hk;cases hk;rw [hs];exact ⟨by simp,fun _=>rfl⟩⟩⟩
   ·exact h.elim
  ·split at h
   ·rename_i k g _ k' g' hs;split at h
    ·rename_i e;have e:=nbq e;subst e;rw [hs] at hb0;obtain ⟨b,cs,ty,h1,h2,h3,h4⟩:=hb0;obtain ⟨hg,h⟩:=h;refine ⟨r,fz,h,.refl _ _,hr,fun r2 fz2 he=>⟨⟨b,cs,ty,by simp only [Mren,he.r n _ hl];exact h1,h2,h3,fun i x hx=>?_⟩,fun _ k hk=>by rw [he.r n _ hl] at hk;cases hk;rw [hs];exact ⟨by simp,fun _=>rfl⟩⟩⟩;have hi:=(Array.getElem?_eq_some_iff.1 hx).1;rw [h3] at hi;have h1:=h4 i x hx;rw [(hg i hi).1] at h1;exact ⟨h1.1,Rd.im _ _ false (Rd.mono (Mren.le M sto r2 fz2 nxt) _ _ (Rd.immB (hg i hi).2 h1.2))⟩
    ·exact h.elim
   ·exact h.elim
  ·split at h
   ·rename_i e sz k f _ e' sz' k' f' hs;split at h
    ·rename_i q1 q2;have q1:=nbq q1;have q2:=nbq q2;subst q1 q2;rw [hs] at hb0;obtain ⟨xs,o1,o2,o3,o4⟩:=hb0;obtain ⟨⟨rfl,hf⟩,h⟩:=h;refine ⟨r,fz,h,.refl _ _,hr,fun r2 fz2 he=>⟨⟨xs,by simp only [Mren,he.r n _ hl];exact o1,by simp only [Mren,he.r n _ hl];exact o2,fun i hi=>?_,o4⟩,fun _ k hk=>by rw [he.r n _ hl] at hk;cases hk;rw [hs];exact ⟨by simp,fun _=>rfl⟩⟩⟩;rw [<-hf i hi];exact RdL.mono (Mren.le M sto r2 fz2 nxt) _ _ (o3 i hi)
    ·exact h.elim
   ·rename_i e sz k f _ e' k' f' i d hs;split at h
    ·rename_i q1 q2;have q1:=nbq q1;have q2:=nbq q2;subst q1 q2;rw [hs] at hb0;obtain ⟨xs,o1,o2,o3,o4,o5⟩:=hb0;obtain ⟨⟨rfl,hik,hf⟩,h⟩:=h;refine ⟨r,fz,h,.refl _ _,hr,fun r2 fz2 he=>⟨⟨xs,by simp only [Mren,he.r n _ hl];exact o1,by simp only [Mren,he.r n _ hl];exact o2,fun j hj=>?_,o5⟩,fun _ k hk=>by rw [he.r n _ hl] at hk;cases hk;rw [hs];exact ⟨by simp,fun _=>rfl⟩⟩⟩;rw [<-hf j hj];exact RdL.mono (Mren.le M sto r2 fz2 nxt) _ _ (o3 j hj (by omega))
    ·exact h.elim
   ·exact h.elim
  ·exact h.elim
  ·split at h
   ·rename_i ty u q _ ty' u' q' hs;split at h
    ·rename_i e;have e:=nbq e;subst e;rw [hs] at hb0;obtain ⟨b,v,h1,h2,h3,h4⟩:=hb0;obtain ⟨rfl,h⟩:=h;obtain ⟨r',fz',a1,a2,a3,a4⟩:=mtD_ok HM q q' v false r fz K h4 hr h;exact ⟨r',fz',a1,a2,a3,fun r2 fz2 he=>⟨⟨b,v,by simp only [Mren,he.r n _ (a2.r n _ hl)];exact h1,h2,h3,a4 r2 fz2 he⟩,fun _ k hk=>by rw [he.r n _ (a2.r n _ hl)] at hk;cases hk;rw [hs];exact ⟨by simp,fun _=>rfl⟩⟩⟩
    ·exact h.elim
   ·exact h.elim
  ·split at h
   ·rename_i e sz cap kn f _ e' sz' cap' kn' f' hs;split at h
    ·rename_i q1 q2;have q1:=nbq q1;have q2:=nbq q2;subst q1 q2;rw [hs] at hb0;obtain ⟨h0,b,cs,h1,h2,h3,h4,h5,h6⟩:=hb0;obtain ⟨⟨rfl,hkn,hf⟩,h⟩:=h;refine ⟨r,fz,h,.refl _ _,hr,fun r2 fz2 he=>⟨⟨by simp only [Mren,he.r n _ hl];exact h0,b,cs,by simp only [Mren,he.r n _ hl];exact h1,h2,h3,Nat.le_trans hkn h4,h5,fun i hi=>?_⟩,fun _ k hk=>by rw [he.r n _ hl] at hk;cases hk;rw [hs];exact ⟨by simp,fun _=>rfl⟩⟩⟩;rw [<-hf i hi];exact RdL.mono (Mren.le M sto r2 fz2 nxt) _ _ (h6 i (Nat.lt_of_lt_of_le hi hkn))
    ·exact h.elim
   ·exact h.elim
  ·split at h
   ·rename_i l _ l' hs;rw [hs] at hb0;obtain ⟨b,h1,h2⟩:=hb0;obtain ⟨rfl,h⟩:=h;exact ⟨r,fz,h,.refl _ _,hr,fun r2 fz2 he=>⟨⟨b,by simp only [Mren,he.r n _ hl];exact h1,h2⟩,fun _ k hk=>by rw [he.r n _ hl] at hk;cases hk;rw [hs];exact ⟨by simp,fun _=>rfl⟩⟩⟩
   ·exact h.elim
  ·have any:∀ (xs:List Value) (k i:Nat),xs.length=k*1->i<k->(∀ u ∈ xs,u.oneCell' = true)->∀ r fz,RdL (Mren M sto r fz nxt) false [.any] ((xs.drop (i*1)).take 1):=fun xs k i hl hi h1 r fz=>by
    have hlt:i<xs.length:=by omega
    have e:(xs.drop (i*1)).take 1 = [xs[i]]:=by
     rw [Nat.mul_one,List.drop_eq_getElem_cons hlt];rfl
    rw [e];simp only [RdL,Rd];exact ⟨h1 _ (List.getElem_mem hlt),trivial,trivial⟩
   split at h
   ·rename_i e k f i d _ e' sz' k' f' hs;split at h
    ·rename_i q1 q2;have q1:=nbq q1;have q2:=nbq q2;subst q1 q2;rw [hs] at hb0;obtain ⟨xs,o1,o2,o3,o4⟩:=hb0;obtain ⟨⟨rfl,hf⟩,h⟩:=h;refine ⟨r,fz,h,.refl _ _,hr,fun r2 fz2 he=>⟨⟨xs,by simp only [Mren,he.r n _ hl];exact o1,by simp only [Mren,he.r n _ hl];exact o2,fun j hj hn=>?_,fun hi=>any xs k' i o1.1 hi o4 _ _,o4⟩,fun _ k hk=>by rw [he.r n _ hl] at hk;cases hk;rw [hs];exact ⟨by simp,fun _=>rfl⟩⟩⟩;rw [<-hf j hj hn];exact RdL.mono (Mren.le M sto r2 fz2 nxt) _ _ (o3 j hj)
    ·exact h.elim
   ·rename_i e k f i d _ e' k' f' i' d' hs;split at h
    ·rename_i q1;have q1:=nbq q1;subst q1;rw [hs] at hb0;obtain ⟨xs,o1,o2,o3,o4,o5⟩:=hb0;by_cases hii:i=i'
     ·obtain ⟨⟨rfl,hik,hf⟩,hq⟩:=h.l (decide_eq_true hii);clear h;subst hii;obtain ⟨r',fz',a1,a2,a3,a4⟩:=mtL_ok HM [d] [d'] ((xs.drop (i*1)).take 1) false r fz K (o4 hik) hr (by simpa only [mtL] using hq);refine ⟨r',fz',a1,a2,a3,fun r2 fz2 he=>⟨⟨xs,by simp only [Mren,he.r n _ (a2.r n _ hl)];exact o1,by simp only [Mren,he.r n _ (a2.r n _ hl)];exact o2,fun j hj hn=>?_,fun hi=>a4 r2 fz2 he,o5⟩,fun _ k hk=>by rw [he.r n _ (a2.r n _ hl)] at hk;cases hk;rw [hs];exact ⟨by simp,fun _=>rfl⟩⟩⟩;rw [<-hf j hj hn];exact RdL.mono (Mren.le M sto r2 fz2 nxt) _ _ (o3 j hj hn)
     ·obtain ⟨⟨rfl,hi1,hik,hf⟩,hq⟩:=h.r (decide_eq_false hii);clear h;split at hq
      ·obtain ⟨r',fz',a1,a2,a3,a4⟩:=mtL_ok HM (f i') [d'] ((xs.drop (i' * 1)).take 1) true r fz K (o4 hik) hr hq;refine ⟨r',fz',a1,a2,a3,fun r2 fz2 he=>⟨⟨xs,by simp only [Mren,he.r n _ (a2.r n _ hl)];exact o1,by simp only [Mren,he.r n _ (a2.r n _ hl)];exact o2,fun j hj hn=>?_,fun hi=>any xs k' i o1.1 hi o5 _ _,o5⟩,fun _ k hk=>by rw [he.r n _ (a2.r n _ hl)] at hk;cases hk;rw [hs];exact ⟨by simp,fun _=>rfl⟩⟩⟩;by_cases hji:j=i'
       ·rw [hji];exact a4 r2 fz2 he
       ·rw [<-hf j hj (by omega)];exact RdL.mono (Mren.le M sto r2 fz2 nxt) _ _ (o3 j hj (by omega))
      ·exact hq.elim
    ·exact h.elim
   ·exact h.elim
  ·split at h
   ·rename_i V sl _ V' g hs;rw [hs] at hb0;obtain ⟨h1,h2⟩:=hb0;obtain ⟨rfl,h⟩:=h;obtain ⟨r',fz',a1,a2,a3,a4⟩:=mtV_ok HM h2 sl r fz K hr h;exact ⟨r',fz',a1,a2,a3,fun r2 fz2 he=>⟨⟨by simp only [Mren,he.r n _ (a2.r n _ hl)];exact h1,a4 r2 fz2 he⟩,fun _ k hk=>by rw [he.r n _ (a2.r n _ hl)] at hk;cases hk;rw [hs];exact ⟨by simp,fun _=>rfl⟩⟩⟩
   ·rename_i V sl _ V' sl' hs;rw [hs] at hb0;obtain ⟨h1,h2⟩:=hb0;obtain ⟨rfl,h⟩:=h;obtain ⟨r',fz',a1,a2,a3,a4⟩:=mtV_ok HM h2 sl r fz K hr h;exact ⟨r',fz',a1,a2,a3,fun r2 fz2 he=>⟨⟨by simp only [Mren,he.r n _ (a2.r n _ hl)];exact h1,a4 r2 fz2 he⟩,fun _ k hk=>by rw [he.r n _ (a2.r n _ hl)] at hk;cases hk;rw [hs];exact ⟨by simp,fun _=>rfl⟩⟩⟩
   ·exact h.elim
  ·split at h
   ·rename_i e sz k f _ e' sz' k' f' hs;split at h
    ·rename_i q1 q2;have q1:=nbq q1;have q2:=nbq q2;subst q1 q2;rw [hs] at hb0;obtain ⟨xs,o1,o2,o3,o4⟩:=hb0;obtain ⟨⟨rfl,hf⟩,h⟩:=h;refine ⟨r,fz,h,.refl _ _,hr,fun r2 fz2 he=>⟨⟨xs,by simp only [Mren,he.r n _ hl];exact o1.oar,by simp only [Mren,he.r n _ hl];exact o2,fun i hi=>?_,o4⟩,fun _ k hk=>by rw [he.r n _ hl] at hk;cases hk;rw [hs];exact ⟨by simp,fun _=>rfl⟩⟩⟩;rw [<-hf i hi];exact RdL.mono (Mren.le M sto r2 fz2 nxt) _ _ (o3 i hi)
    ·exact h.elim
   ·rename_i e sz k f _ e' sz' k' f' hs;split at h
    ·rename_i q1 q2;have q1:=nbq q1;have q2:=nbq q2;subst q1 q2;rw [hs] at hb0;obtain ⟨xs,o1,o2,o3,o4⟩:=hb0;obtain ⟨⟨rfl,hf⟩,h⟩:=h;refine ⟨r,fz,h,.refl _ _,hr,fun r2 fz2 he=>⟨⟨xs,by simp only [Mren,he.r n _ hl];exact o1,by simp only [Mren,he.r n _ hl];exact o2,fun i hi=>?_,o4⟩,fun _ k hk=>by rw [he.r n _ hl] at hk;cases hk;rw [hs];exact ⟨by simp,fun _=>rfl⟩⟩⟩;rw [<-hf i hi];exact RdL.mono (Mren.le M sto r2 fz2 nxt) _ _ (o3 i hi)
    ·exact h.elim
   ·exact h.elim
  ·exact h.elim
  ·split at h
   ·rename_i e sz k f _ e' sz' k' f' hs;split at h
    ·rename_i q1 q2;have q1:=nbq q1;have q2:=nbq q2;subst q1 q2;rw [hs] at hb0;obtain ⟨⟨rfl,hf⟩,h⟩:=h;refine ⟨r,fz,h,.refl _ _,hr,fun r2 fz2 he=>⟨?_,fun _ k hk=>by rw [he.r n _ hl] at hk;cases hk;rw [hs];exact ⟨by simp,fun _=>rfl⟩⟩⟩
     rcases hb0 with ⟨xs,o1,o2,o3,o4⟩ | ⟨o1,⟨ad,o2⟩,o3⟩
     ·refine .inl ⟨xs,by simp only [Mren,he.r n _ hl];exact o1,by simp only [Mren,he.r n _ hl];exact o2,fun i hi=>?_,o4⟩;rw [<-hf i hi];exact RdL.mono (Mren.le M sto r2 fz2 nxt) _ _ (o3 i hi)
     ·refine .inr ⟨by simp only [Mren,he.r n _ hl];exact o1,⟨ad,by simp only [Mren,he.r n _ hl];exact o2⟩,?_⟩;simp only [Mren,he.r n _ hl];have:=Rd.mono (Mren.le M sto r2 fz2 nxt) _ _ o3;simp only [Rd] at this ⊢;obtain ⟨a0,cap,e1,e2,e3⟩:=this
      exact ⟨a0,cap,e1,e2,fun i hi=>by
       obtain ⟨b,off,g1,g2,vs,g3,g4,g5⟩:=e3 i hi
       exact ⟨b,off,g1,g2,vs,g3,g4,by rw [<-hf i hi];exact g5⟩⟩
    ·exact h.elim
   ·rename_i e sz k f _ e' sz' k' f' hs;split at h
    ·rename_i q1 q2;have q1:=nbq q1;have q2:=nbq q2;subst q1 q2;rw [hs] at hb0;obtain ⟨xs,o1,o2,o3,o4⟩:=hb0;obtain ⟨⟨rfl,hf⟩,h⟩:=h;refine ⟨r,fz,h,.refl _ _,hr,fun r2 fz2 he=>⟨.inl ⟨xs,by simp only [Mren,he.r n _ hl];exact o1,by simp only [Mren,he.r n _ hl];exact o2,fun i hi=>?_,o4⟩,fun _ k hk=>by rw [he.r n _ hl] at hk;cases hk;rw [hs];exact ⟨by simp,fun _=>rfl⟩⟩⟩;rw [<-hf i hi];exact RdL.mono (Mren.le M sto r2 fz2 nxt) _ _ (o3 i hi)
    ·exact h.elim
   ·exact h.elim
  ·split at h
   ·rename_i sk kn l _ sk' kn' l' hs;split at h
    ·rename_i q1 q2;have q1:=bEq_of q1;have q2:=nbq q2;subst q1 q2;rw [hs] at hb0;obtain ⟨b,h1,h2⟩:=hb0;obtain ⟨hle,h⟩:=h;exact ⟨r,fz,h,.refl _ _,hr,fun r2 fz2 he=>⟨⟨b,by simp only [Mren,he.r n _ hl];exact h1,(h2.le hle).mono (Mren.le M sto r2 fz2 nxt)⟩,fun _ k hk=>by rw [he.r n _ hl] at hk;cases hk;rw [hs];exact ⟨by simp,fun _=>rfl⟩⟩⟩
    ·exact h.elim
   ·exact h.elim
  ·exact h.elim
  ·split at h
   ·rename_i e sz k f _ e' sz' k' f' hs;split at h
    ·rename_i q1 q2;have q1:=nbq q1;have q2:=nbq q2;subst q1 q2;rw [hs] at hb0;obtain ⟨xs,Fs,o1,o2,o3,o4,o5,o6,o7⟩:=hb0;obtain ⟨⟨rfl,hf⟩,h⟩:=h;refine ⟨r,fz,h,.refl _ _,hr,fun r2 fz2 he=>⟨⟨xs,Fs,by simp only [Mren,he.r n _ hl];exact o1,by simp only [Mren,he.r n _ hl];exact o2,fun i hi=>hf i hi _ _ _ ?_,o4,o5,fun b=>by simp only [Mren,he.r n _ hl];exact o6 b,fun b hb=>by simp only [Mren,he.r n _ hl];exact o7 b hb⟩,fun _ k hk=>by rw [he.r n _ hl] at hk;cases hk;rw [hs];exact ⟨by simp,nofun⟩⟩⟩
     exact OdL.mono (M:=M) (M':=Mren M sto r2 fz2 nxt) (fun _ h=>.inl h) (fun _ _=>rfl) _ _ _ (o3 i hi) fun _ _=>rfl
    ·exact h.elim
   ·rename_i e sz k f _ e' sz' k' f' hs;split at h
    ·rename_i q1 q2;have q1:=nbq q1;have q2:=nbq q2;subst q1 q2;have hnX:=HM.non m (by rw [hs];simp) (by rw [hs];rfl);rw [hs] at hb0;obtain ⟨xs,o1,o2,o3,o4⟩:=hb0;obtain ⟨⟨rfl,hf⟩,h⟩:=h;refine ⟨r,fz,h,.refl _ _,hr,fun r2 fz2 he=>⟨⟨xs,fun _=>[],by simp only [Mren,he.r n _ hl];exact o1,by simp only [Mren,he.r n _ hl];exact o2,fun i hi=>hf i hi _ _ _ ?_,o4,by rw [rowsF_nil];exact List.nodup_nil,fun b=>by simp only [Mren,he.r n _ hl];rw [rowsF_nil];exact ⟨fun h=>absurd h (hnX b),nofun⟩,fun b hb=>by rw [rowsF_nil] at hb;cases hb⟩,fun _ k hk=>by rw [he.r n _ hl] at hk;cases hk;rw [hs];exact ⟨by simp,nofun⟩⟩⟩;exact OdL.of_rd _ _ (RdL.mono (Mren.le M sto r2 fz2 nxt) _ _ (o3 i hi))
    ·exact h.elim
   ·exact h.elim
  ·split at h
   ·rename_i kn l la _ kn' l' la' hs;split at h
    ·rename_i q1;have q1:=nbq q1;subst q1;rw [hs] at hb0;obtain ⟨b,h1,bm,es,ck,since,seen,c0,h2,h3,h4,h5,h6,h7,h8,h9,h10,_⟩:=hb0;obtain ⟨rfl,h⟩:=h;refine ⟨r,fz,h,.refl _ _,hr,fun r2 fz2 he=>⟨⟨b,by simp only [Mren,he.r n _ hl];exact h1,bm,es,ck,since,seen,c0,?_,(Mren.le M sto r2 fz2 nxt).S bm h3,?_,h5,h6,h7,h8,h9,h10,nofun⟩,fun _ k hk=>by rw [he.r n _ hl] at hk;cases hk;rw [hs];exact ⟨by simp,fun _=>rfl⟩⟩⟩
     ·exact h2
     ·rw [(Mren.le M sto r2 fz2 nxt).h bm h3];exact h4
    ·exact h.elim
   ·exact h.elim
theorem mtBs_ok (HM:Mem c M sto):∀ (bx:List (Nat × Box)) (r:Ren) (fz:List Nat) (K:Ren->List Nat->Prop),RnOK M r fz->mtBs nxt sto bx r fz K ->
 MtOK M r fz K fun r fz=>∀ n,BoxOK (Mren M sto r fz nxt) n (lkB bx n)/\(lkB bx n≠.dead->∀ m,lkR r n=some (some m)->sto m≠.dead/\((lkB bx n).isFam=false->(sto m).isFam=false))
 | [],r,fz,K,hr,h=>.same hr h fun _ _ _=>⟨trivial,fun h=>absurd rfl h⟩
 | (n,hb) :: bx,r,fz,K,hr,h=>by
   simp only [mtBs] at h;obtain ⟨r1,f1,h,e1,hr1,p1⟩:=mtB_ok HM hr h;obtain ⟨r2,f2,h,e2,hr2,p2⟩:=mtBs_ok HM bx r1 f1 K hr1 h;refine ⟨r2,f2,h,e1.trans e2,hr2,fun r3 f3 e3 k=>?_⟩;simp only [lkB];split
   ·rename_i e;have e:=nbq e;subst e;exact p1 r3 f3 (e2.trans e3)
   ·exact p2 r3 f3 e3 k
theorem mtE_ok (HM:Mem c M sto) {env:Nat->D} {tmps:Array Value} (he:∀ t,Rd M false (env t) (tmps.getD t undef)):∀ (sl:List (Nat × D)) (r:Ren) (fz:List Nat) (K:Ren->List Nat->Prop),RnOK M r fz->mtE nxt sto env sl r fz K ->
 MtOK M r fz K fun r fz=>∀ t,Rd (Mren M sto r fz nxt) false (lkE sl t) (tmps.getD t undef)
 | [],r,fz,K,hr,h=>.same hr h fun _ _ _=>by simp [lkE,Rd]
 | (t,d) :: sl,r,fz,K,hr,h=>by
   simp only [mtE,force_eq] at h;obtain ⟨r1,f1,h,e1,hr1,p1⟩:=mtD_ok HM d (env t) _ false r fz _ (he t) hr h;obtain ⟨r2,f2,h,e2,hr2,p2⟩:=mtE_ok HM he sl r1 f1 K hr1 h;refine ⟨r2,f2,h,e1.trans e2,hr2,fun r3 f3 e3 k=>?_⟩;simp only [lkE];split
   ·rename_i e;have e:=nbq e;subst e;exact p1 r3 f3 (e2.trans e3)
   ·exact p2 r3 f3 e3 k
theorem lkB_in:∀ {bx:List (Nat × Box)} {n:Nat},lkB bx n≠.dead->∃ b,(n,b) ∈ bx
 | [],_,h=>absurd rfl h
 | (t,d) :: bx,n,h=>by
   simp only [lkB] at h;split at h
   ·rename_i e;have e:=nbq e;subst e;exact ⟨d,by simp⟩
   ·obtain ⟨b,hb⟩:=lkB_in h;exact ⟨b,List.mem_cons_of_mem _ hb⟩
theorem allLt_of:∀ {bx:List (Nat × Box)},allLt nxt bx=true->∀ n b,(n,b) ∈ bx->n<nxt
 | [],_,_,_,hm=>by cases hm
 | (t,d) :: bx,h,n,b,hm=>by
   simp only [allLt] at h;split at h
   ·rename_i e
    rcases List.mem_cons.1 hm with h1 | h1
    ·cases h1;simpa [Nat.blt_eq] using e
    ·exact allLt_of h n b h1
   ·cases h
end
theorem lkR_nil (n:Nat) (o:Option Nat):lkR [] n≠some o:=by simp [lkR]
theorem mtS_turn0 {nt:Nt} {st:St} {sl:List (Nat × D)} {bx:List (Nat × Box)} {nxt:Nat} (h:mtS0 st sl bx nxt):Turn nt st fun st'=>st' = mkSt sl bx nxt:=by
 intro Pc c M a w R;unfold mtS0 at h;split at h
 case h_2=>exact h.elim
 rename_i hlt;obtain ⟨r1,f1,h,e1,hr1,p1⟩:=mtE_ok R.mem R.env sl [] [] _ ⟨fun n m hl=>absurd hl (lkR_nil _ _),fun n _ m hl=>absurd hl (lkR_nil _ _),fun n m hl=>absurd hl (lkR_nil _ _)⟩ h;obtain ⟨r2,f2,_,e2,hr2,p2⟩:=mtBs_ok R.mem bx r1 f1 _ hr1 h;have henv:=p1 r2 f2 e2;have hbox:=p2 r2 f2 (.refl _ _)
 have hρ:∀ n b,(lkB bx n)≠.dead->(Mren M st.sto r2 f2 nxt).O n b->∃ m,lkR r2 n=some (some m)/\st.sto m≠.dead/\M.O m b:=fun n b hd hb=>by
  simp only [Mi.O,Mren] at hb
  rcases hb with hb | hb
  ·split at hb
   ·rename_i m hl;exact ⟨m,hl,((hbox n).2 hd m hl).1,.inl hb⟩
   ·cases hb
  ·split at hb
   ·rename_i m hl;exact ⟨m,hl,((hbox n).2 hd m hl).1,.inr hb⟩
   ·exact hb.elim
 refine ⟨_,Mren M st.sto r2 f2 nxt,rfl,⟨R.h,rfl,⟨R.mem.size,R.mem.frame,fun b hb=>?_,fun b hb=>?_,fun n _=>(hbox n).1,fun n hn=>?_,fun n n' b h1 h2 r1 r2=>?_,fun n b hd hb hS=>?_,fun n b hd hb=>?_,fun n hd hf b hb=>?_⟩,henv,R.sz,R.defs,R.os,R.tape,R.output⟩⟩
 ·rcases hb with hb | ⟨m,_,hd,hb⟩
  ·exact R.mem.Slt b hb
  ·exact R.mem.bltO hd hb
 ·rcases hb with hb | ⟨m,_,hd,hb⟩
  ·exact R.mem.Sold b hb
  ·exact .inr (R.mem.frO m b hd hb)
 ·show lkB bx n = .dead
  have hn:nxt<=n:=hn
  refine Classical.byContradiction fun hd=>?_
  obtain ⟨b,hb⟩:=lkB_in hd;exact absurd (allLt_of hlt n b hb) (Nat.not_lt.2 hn)
 ·obtain ⟨m,l1,d1,b1⟩:=hρ n b h1 r1;obtain ⟨m',l2,d2,b2⟩:=hρ n' b h2 r2;have:=R.mem.injO m m' b d1 d2 b1 b2;subst this;exact hr2.inj n n' m l1 l2
 ·obtain ⟨m,l1,d1,b1⟩:=hρ n b hd hb
  rcases hS with hS | ⟨m',hm',d2,b2⟩
  ·exact R.mem.sepO m b d1 b1 hS
  ·have:=R.mem.injO m m' b d1 d2 b1 b2;subst this;exact hr2.dis n m l1 hm'
 ·obtain ⟨m,l1,d1,b1⟩:=hρ n b hd hb;exact R.mem.frO m b d1 b1
 ·simp only [Mren] at hb;split at hb
  ·rename_i m hl;obtain ⟨h1,h2⟩:=(hbox n).2 hd m hl;exact R.mem.non m h1 (h2 hf) b hb
  ·exact hb
theorem mtS_turn {nt:Nt} {st:St} {sl:List (Nat × D)} {bx:List (Nat × Box)} {nxt:Nat} (h:mtS st sl bx nxt):Turn nt st fun st'=>st' = mkSt sl bx nxt:=by
 intro Pc c M a w R;obtain ⟨st1,M1,h1,R1,_⟩:=closeN_ok st.nxt R h;exact mtS_turn0 h1 c M1 a w R1
structure Again {α:Type} (p q:α->Prop):Prop where
 ok:∃ y,p y/\q y
theorem Again.by {α:Type} {p q:α->Prop} (y:α) (hp:p y) (hq:Step (q y)):Again p q:=⟨y,hp,hq.out⟩
theorem Again.turn {α:Type} {nt:Nt} {st:St} {p:α->Prop} {sl:α->List (Nat × D)} {bx:α->List (Nat × Box)} {nxt:Nat} (h:Again p fun y=>mtS st (sl y) (bx y) nxt) :
 Turn nt st fun st=>∃ y,p y/\st=mkSt (sl y) (bx y) nxt:=fun c M a w R=>by
 obtain ⟨y,hp,hm⟩:=h;obtain ⟨st',M',rfl,R'⟩:=mtS_turn hm c M a w R;exact ⟨_,M',⟨y,hp,rfl⟩,R'⟩
theorem thenW_mono {K:Ex->St->Prop} {n n' : St->Prop} (h:∀ st,n st->n' st):∀ e st,thenW K n e st->thenW K n' e st
 | .normal,st,hn=>h st hn| .exit _,_,hn=>hn| .ret,_,hn=>hn
section
variable {P:Program} {Γ:Ty} {nt:Nt} {st:St} {K:Ex->St->Prop}
theorem CodeOK.loopW {b:Code} (H:TyOK P Γ) (hm:P.follows .mixedOrders=true) (ords:Ords) (cuts:List Nat) (ho:ordsOK ords b=true) {α:Type} (sl:α->List (Nat × D)) (bx:α->List (Nat × Box)) (nxt:Nat) (φ:α->Prop) (μ:α->Nat)
 (h0:Again φ fun x=>mtS st (sl x) (bx x) nxt)
 (hb:∀ x,φ x->Step (WX P Γ nt ords cuts b (mkSt (sl x) (bx x) nxt) (thenW K fun st=>Again (fun y=>φ y/\μ y<μ x) fun y=>mtS st (sl y) (bx y) nxt))):CodeOK P nt (.loop b) st K :=
 .loop (fun x=>mkSt (sl x) (bx x) nxt) φ μ h0.turn fun x hx=>(WX_ok H hm b _ _ ho (hb x hx).out).mono (thenW_mono fun _ h=>h.turn)
theorem CodeOK.cutW {x y:Code} (H:TyOK P Γ) (hm:P.follows .mixedOrders=true) (ords:Ords) (cuts:List Nat) (ho:(ordsOK ords x && ordsOK ords y)=true) {α:Type} (sl:α->List (Nat × D)) (bx:α->List (Nat × Box)) (nxt:Nat) (φ:α->Prop)
 (hx:Step (WX P Γ nt ords cuts x st (thenW K fun st=>Again φ fun y=>mtS st (sl y) (bx y) nxt)))
 (hy:∀ z,φ z->Step (WX P Γ nt ords cuts y (mkSt (sl z) (bx z) nxt) K)):CodeOK P nt (.seq x y) st K:=by
 simp only [bat] at ho
 exact .cut (n:=fun st=>∃ y,φ y/\st=mkSt (sl y) (bx y) nxt) ((WX_ok H hm x _ _ ho.1 hx.out).mono (thenW_mono fun _ h=>h.turn)) fun st ⟨z,hz,e⟩=>by
  subst e;exact WX_ok H hm y _ _ ho.2 (hy z hz).out
end
end Sx
namespace Sx
open Go
def nthE:List D->Nat->D
 | [],_=>.any| d :: _,0=>d| _ :: l,k+1=>nthE l k
def resL (Γ:Ty) (st:St):List ResultVar->(List D->Prop)->Prop
 | [],K=>K []
 | .tmp t :: l,K=>D.force (st.env t) fun d=>resL Γ st l fun ds=>K (d :: ds)
 | .cell a t :: l,K=>loadD Γ st.sto t (st.env a) fun d=>D.force d fun d=>resL Γ st l fun ds=>K (d :: ds)
def resD (l:List D):D:=match l with
 | [d]=>d| ds=>.tup ds
def ioD (env:Nat->D):List D->Nat->List D
 | [],_=>[]| .fbox _ :: l,i=>env i :: ioD env l (i+1)| .foar .. :: l,i=>env i :: ioD env l (i+1)| .fmapd .. :: l,i=>env i :: ioD env l (i+1)| _ :: l,i=>ioD env l (i+1)
def ioN:List D->Nat->List Nat
 | [],_=>[]| .fbox _ :: l,i=>i :: ioN l (i+1)| .foar .. :: l,i=>i :: ioN l (i+1)| .fmapd .. :: l,i=>i :: ioN l (i+1)| _ :: l,i=>ioN l (i+1)
def hdT (R:D->List D->Prop) (l:List D) (_:List Nat):Prop:=match l with
 | r :: outs=>R r outs| []=>False
def retW0 (Γ:Ty) (fn:Func) (args:List D) (R:D->List D->Prop) (st:St):Prop :=
 resL Γ st fn.results.toList fun ds=>lesL (giD st.sto 6) (resD ds :: ioD st.env args 0) [] (hdT R)
def retW (Γ:Ty) (fn:Func) (args:List D) (R:D->List D->Prop) (st:St):Prop:=closeN st.nxt st fun st=>retW0 Γ fn args R st
def retK (Γ:Ty) (fn:Func) (args:List D) (R:D->List D->Prop):Ex->St->Prop
 | .exit _,_=>False| .normal,st=>retW Γ fn args R st| .ret,st=>retW Γ fn args R st
def fnW (P:Program) (Γ:Ty) (fn:Func) (ords:Ords) (cuts:List Nat) (args:List D) (R:D->List D->Prop):Prop :=
 match fn.body with
 | some body=>match Nat.ble args.length fn.ntmps with
   | true=>adL args (fun _=>.dead) 0 fun as s n=>WX P Γ ⟨fn.ntmps,ioN args 0⟩ ords cuts body ⟨nthE as,s,n⟩ (retK Γ fn args R)
   | false=>False
 | none=>False
def fnX (Γ:Ty) (fn:Func) (args:List D) (R:D->List D->Prop) (X:Nt->Code->St->(Ex->St->Prop)->Prop):Prop :=
 match fn.body with
 | some body=>match Nat.ble args.length fn.ntmps with
   | true=>adL args (fun _=>.dead) 0 fun as s n=>X ⟨fn.ntmps,ioN args 0⟩ body ⟨nthE as,s,n⟩ (retK Γ fn args R)
   | false=>False
 | none=>False
def openW (m:Nat) (st:St) (K:St->Prop):Prop :=
 match st.sto m with
 | .arr e sz n f=>st.on fun e_ s_ k_=>Two (Br (decide (n=0)=true) (K ⟨fun t=>D.sub m .nil (e_ t),upd (fun j=>(s_ j).sub m .nil) m .dead,k_⟩) (decide (n=0)=false) True)
  (Cp n fun cap=>K ⟨fun t=>D.sub m (.rsl m sz 0 n cap) (e_ t),upd (fun j=>(s_ j).sub m (.rsl m sz 0 n cap)) m (.blk e sz cap n f),k_⟩)
 | _=>False
def fnWo (P:Program) (Γ:Ty) (fn:Func) (ords:Ords) (cuts:List Nat) (args:List D) (R:D->List D->Prop):Prop :=
 fnX Γ fn args R fun nt body st K=>openW 0 st fun st=>WX P Γ nt ords cuts body st K
def fnOrd (fn:Func) (ords:Ords):Bool :=
 match fn.body with
 | some body=>ordsOK ords body && !(fn.name == "runtime.NumGoroutine")| none=>false
section
variable {P:Program} {Γ:Ty} {c:Cx P} {nt:Nt} {M:Mi} {st:St} {a:Act} {w:World}
def resF (tmps:Array Value):ResultVar->Sem Value
 | .tmp t=>pure (tmps.getD t undef)| .cell a t=>do loadVar t (<-asAddr (tmps.getD a undef))
theorem resL_ok (H:TyOK P Γ) (R:RelM c nt M st a w):∀ (l:List ResultVar) (K:List D->Prop),resL Γ st l K->∃ ds vs,K ds/\RdT M false ds vs/\(l.mapM (resF a.tmps)).run P w = .ok vs w
 | [],K,h=>⟨[],[],h,by simp [RdT],by simp⟩
 | .tmp t :: l,K,h=>by
   simp only [resL,force_eq] at h;obtain ⟨ds,vs,hk,hr,hrun⟩:=resL_ok H R l _ h;exact ⟨_,a.tmps.getD t undef :: vs,hk,by simp only [RdT];exact ⟨R.env t,hr⟩,by simp [List.mapM_cons,resF,hrun]⟩
 | .cell b t :: l,K,h=>by
   simp only [resL] at h;obtain ⟨d,v,h,hr1,hrun1⟩:=loadD_ok H R.mem h (R.env b);rw [force_eq] at h;obtain ⟨ds,vs,hk,hr,hrun⟩:=resL_ok H R l _ h;refine ⟨_,v :: vs,hk,by simp only [RdT];exact ⟨hr1,hr⟩,?_⟩;have h1:=hrun1 w R.keep
   have h2:(resF a.tmps (.cell b t)).run P w = .ok v w:=by
    rw [<-h1];simp only [resF,Instr.loadAt]
    cases hx:a.tmps.getD b undef with
    | pointer o =>
      cases o with
      | some ad=>rfl
      | none=>rw [hx] at h1;simp [Instr.loadAt,Instr.sureAddr] at h1
    | _=>rw [hx] at h1;simp [Instr.loadAt,Instr.sureAddr] at h1
   simp [List.mapM_cons,h2,hrun]
theorem resD_rd {ds:List D} {vs:List Value} (h:RdT M false ds vs):Rd M false (resD ds) (if h:vs.toArray.size=1 then vs.toArray[0] else .tuple vs.toArray):=by
 match ds,vs,h with
 | [],[],_=>simp [resD,Rd,RdT]
 | [d],[v],h=>simp only [RdT] at h;simpa [resD] using h.1
 | d :: e :: l,v :: u :: m,h =>
   simp only [resD,Rd];exact ⟨(v :: u :: m).toArray,by simp,h⟩
 | [],_ :: _,h=>simp [RdT] at h| _ :: _,[],h=>simp [RdT] at h| [_],_ :: _ :: _,h=>simp [RdT] at h| _ :: _ :: _,[_],h=>simp [RdT] at h
theorem results_run (H:TyOK P Γ) (R:RelM c nt M st a w) {fn:Func} {K:List D->Prop} (h:resL Γ st fn.results.toList K):∃ ds v,K ds/\Rd M false (resD ds) v/\(results fn a.tmps).run P w = .ok v w:=by
 obtain ⟨ds,vs,hk,hr,hrun⟩:=resL_ok H R _ _ h;refine ⟨ds,_,hk,resD_rd hr,?_⟩
 have:results fn a.tmps=(do let vs <-fn.results.mapM (resF a.tmps);pure (if h:vs.size=1 then vs[0] else .tuple vs)):=by
  unfold results
  congr 1
 rw [this,Array.mapM_eq_mapM_toList];simp [hrun]
theorem ioD_rd (R:RelM c nt M st a w) {vs:List Value}:∀ (l:List D) (us:List Value) (k:Nat),(∀ j,us[j]? = vs[k+j]?)->l.length=us.length ->
 (∀ t,memN t (ioN l k)=true->a.tmps.getD t undef=vs.getD t undef)->RdT M false (ioD st.env l k) (ioV l us)
 | [],us,k,_,_,_=>by simp [ioD,ioV,RdT]
 | d :: l,[],k,_,h,_=>by simp at h
 | d :: l,u :: us,k,hu,hl,hf=>by
   have hu' : ∀ j,us[j]? = vs[k+1+j]?:=fun j=>by
    have:=hu (j+1);rw [show k+1+j=k+(j+1) by omega,<-this];simp
   have hl' : l.length=us.length:=by simpa using hl
   cases d
   case fbox m =>
    simp only [ioD,ioV,RdT];refine ⟨?_,ioD_rd R l us (k+1) hu' hl' fun t ht=>hf t (by simp only [ioN,memN];split<;>first | rfl | exact ht)⟩;have h1:=hf k (by simp [ioN,memN]);have h0:=hu 0
    have h2:vs.getD k undef=u:=by
     rw [Nat.add_zero] at h0;rw [gDe,<-h0];rfl
    rw [h2] at h1;rw [<-h1];exact R.env k
   case foar e0 s0 n0 f0 =>
    simp only [ioD,ioV,RdT];refine ⟨?_,ioD_rd R l us (k+1) hu' hl' fun t ht=>hf t (by simp only [ioN,memN];split<;>first | rfl | exact ht)⟩;have h1:=hf k (by simp [ioN,memN]);have h0:=hu 0
    have h2:vs.getD k undef=u:=by
     rw [Nat.add_zero] at h0;rw [gDe,<-h0];rfl
    rw [h2] at h1;rw [<-h1];exact R.env k
   case fmapd a0 b0 c0 d0 e0 =>
    simp only [ioD,ioV,RdT];refine ⟨?_,ioD_rd R l us (k+1) hu' hl' fun t ht=>hf t (by simp only [ioN,memN];split<;>first | rfl | exact ht)⟩;have h1:=hf k (by simp [ioN,memN]);have h0:=hu 0
    have h2:vs.getD k undef=u:=by
     rw [Nat.add_zero] at h0;rw [gDe,<-h0];rfl
    rw [h2] at h1;rw [<-h1];exact R.env k
   all_goals
    simp only [ioD,ioV]
    exact ioD_rd R l us (k+1) hu' hl' fun t ht=>hf t (by simp only [ioN];exact ht)
theorem OdT.length:∀ {l:List D} {vs:List Value} {F:List Nat},OdT M l vs F->l.length=vs.length
 | [],[],_,_=>rfl
 | d :: l,v :: vs,F,h=>by simp only [OdT] at h;obtain ⟨F1,F2,_,_,h⟩:=h;simp [OdT.length h]
 | [],_ :: _,_,h=>by simp [OdT] at h
 | _ :: _,[],_,h=>by simp [OdT] at h
theorem nthE_rd:∀ {l:List D} {vs:List Value},RdT M false l vs->∀ t,Rd M false (nthE l t) (vs.getD t undef)
 | [],[],_,t=>by simp [nthE,Rd]
 | d :: l,v :: vs,h,0=>by simp only [RdT] at h;simpa [nthE] using h.1
 | d :: l,v :: vs,h,t+1=>by simp only [RdT] at h;simpa [nthE] using nthE_rd h.2 t
 | [],_ :: _,h,_=>by simp [RdT] at h
 | _ :: _,[],h,_=>by simp [RdT] at h
theorem calls_marks {f:FuncId} {fn:Func} {x:Code} {args:Array Value} {R:Ending->World->Prop} (hf:P.funcs[f]? = some fn) (hb:fn.body=some x)
 (h:x.wp P (bodyPostM Fence.wide 0 P fn R) { tmps:=args ++ Array.replicate (fn.ntmps - args.size) undef,defers:=[] } w):Calls P f args w R :=
 callsIn_wide.1 (callsIn_of_wp_marks (n:=0) hf hb trivial (wpIn_wide.2 h))
theorem RelM.other (R:RelM c nt M st a w) {D:Nat} {o o' : Obj} (hD:w.heap[D]? = some o) (h1:c.w0.heap.size<=D) (h2:¬ M.S D) (h3:∀ n,st.sto n≠.dead->¬ M.O n D) :
 RelM c nt { M with h:=(w.putObj D o').heap } st a (w.putObj D o'):=by
 have hlt:D<w.heap.size:=(Array.getElem?_eq_some_iff.1 hD).1
 have hsz:(w.putObj D o').heap.size=w.heap.size:=by simp [World.putObj]
 obtain ⟨H1,L1⟩:=R.mem.goOn M.S (w.putObj D o').heap [D] (by rw [hsz,R.h];exact Nat.le_refl _) (fun b _ hb=>by
  rw [R.h];exact World.putObj_heap_other (by simpa [eq_comm] using hb)) (by simpa using h2) (by simpa using h3) (by simpa using Or.inl h1) (by simp [R.h,hlt]) (fun _ h=>h) (fun _ h=>.inl h)
 exact ⟨rfl,R.nx,H1,fun t=>Rd.mono L1 _ _ (R.env t),R.sz,R.defs,R.os,R.tape,R.output⟩
theorem leaves_list {fn:Func} {T:Ending->World->Prop} {a0:Act}:∀ (l:List Deferred) (M:Mi) (w:World),l.Nodup->(∀ d ∈ l,∃ D,d = { target:=.collected D,args:=#[] }/\c.w0.heap.size<=D/\¬ M.S D/\(∀ n,st.sto n≠.dead->¬ M.O n D)/\w.heap[D]? = some (.deferred (some []))) ->
 RelM c nt M st { a0 with defers:=[] } w->(∀ M w,RelM c nt M st { a0 with defers:=[] } w->∃ v,(results fn a0.tmps).run P w = .ok v w/\T (.returned v) w)->LeavesInM Fence.wide 0 P fn a0.tmps T l .returning w
 | [],M,w,_,_,R,h=>h M w R
 | d :: l,M,w,hn,hd,R,h=>by
   obtain ⟨D,rfl,h1,h2,h3,h4⟩:=hd d (by simp);refine ⟨by simp,.inl ⟨D,_,rfl,run_takeDeferred h4,?_⟩⟩;refine leaves_list l { M with h:=(w.putObj D (.deferred none)).heap } _ (List.nodup_cons.1 hn).2 (fun d' hd'=>?_) (R.other h4 h1 h2 h3) h;obtain ⟨D',rfl,g1,g2,g3,g4⟩:=hd d' (by simp [hd']);refine ⟨D',rfl,g1,g2,g3,?_⟩;rw [World.putObj_heap_other (fun e=>?_)];exact g4;subst e;exact (List.nodup_cons.1 hn).1 hd'
theorem leaves_all {c' : Cx P} {fn:Func} {T:Ending->World->Prop} {a0:Act} (hx:CxE c c') (h0:c.dm = []) (R:RelM c' nt M st a0 w)
 (h:∀ M w,RelM c nt M st { a0 with defers:=[] } w->∃ v,(results fn a0.tmps).run P w = .ok v w/\T (.returned v) w):LeavesInM Fence.wide 0 P fn a0.tmps T a0.defers .returning w:=by
 refine leaves_list a0.defers M w (by rw [R.defs];exact c'.nd) (fun d hd=>?_) ⟨R.h,R.nx,hx.mem _ _ R.mem,R.env,⟨R.sz.1,fun t ht=>by rw [<-hx.tm];exact R.sz.2 t ht⟩,h0.symm,R.os.trans hx.os,R.tape.trans hx.tape,R.output.trans hx.output⟩ h;rw [R.defs] at hd;obtain ⟨D,rfl,d1,d2,d3,d4⟩:=c'.mks d hd
 rcases hx.dm _ hd with h1 | ⟨D',e,h1⟩
 ·rw [h0] at h1;cases h1
 ·cases e;refine ⟨D,rfl,h1,fun hS=>?_,fun n hn he=>?_,?_⟩
  ·rcases R.mem.Sold D hS with h | h | h
   ·exact d3 h
   ·exact absurd d1 (Nat.not_lt.2 h)
   ·exact d2 h
  ·rcases R.mem.frO n D hn he with h | h
   ·exact absurd d1 (Nat.not_lt.2 h)
   ·exact d2 h
  ·rw [<-R.h,R.mem.frame D d1 d2];exact d4
theorem Ct.of_X (H:TyOK P Γ) {f:FuncId} {fn:Func} (hf:P.funcs[f]? = some fn) (ords:Ords) (ho:fnOrd fn ords=true) {args:List D} {R:D->List D->Prop} {X:Nt->Code->St->(Ex->St->Prop)->Prop}
 (hX:∀ nt body st K,ordsOK ords body=true->X nt body st K->CodeOK P nt body st K) (h:fnX Γ fn args R X):Ct P f args R:=by
 unfold fnX at h;unfold fnOrd at ho;split at h
 case h_2=>exact h.elim
 rename_i body hb;rw [hb] at ho;simp only [bat,Bool.not_eq_true'] at ho;obtain ⟨ho,hname⟩:=ho;split at h
 case h_2=>exact h.elim
 rename_i hlen;have hlen:=Nat.le_of_ble_eq_true hlen;refine ⟨⟨fn,hf,by rw [hb];rfl,hname⟩,fun w S0 vs F hS hod hnd hFS=>?_⟩;have hl:=hod.length;obtain ⟨hFS,hlay⟩:=hFS
 obtain ⟨as,sto,M',h,A,hr⟩:=adT_ok (c:=(⟨w,fun b=>b ∈ F,S0,fun t=>vs.toList.getD t undef,hlay,[],List.nodup_nil,nofun⟩:Cx P)) args vs.toList F (MiS S0 w.heap) (fun _=>.dead) _
  ⟨Nat.le_refl _,fun _ _ _=>rfl,hS,fun b hb=>.inl hb,fun n hn=>absurd hn (Nat.not_lt_zero _),fun _ _=>rfl,fun n m b h1=>absurd rfl h1,fun n b h1=>absurd rfl h1,fun n b h1=>absurd rfl h1,fun n h1=>absurd rfl h1⟩ hod
  ⟨hnd,hFS,fun b hb n h1=>absurd rfl h1,fun b hb=>.inr hb⟩ h
 have hvs:vs.size<=fn.ntmps:=by simp at hl;omega
 have hget:∀ t,(vs ++ Array.replicate (fn.ntmps - vs.size) undef).getD t undef=vs.toList.getD t undef:=fun t=>by
  rw [Array.getD_eq_getD_getElem?,gDe,Array.getElem?_append,Array.getElem?_toList];split
  ·rfl
  ·rename_i h;rw [Array.getElem?_eq_none (xs:=vs) (Nat.le_of_not_lt h),Array.getElem?_replicate]
   split<;>rfl
 refine calls_marks hf hb (wp_mono ((hX _ body _ _ ho h).ok _ M' { tmps:=vs ++ Array.replicate (fn.ntmps - vs.size) undef,defers:=[] } w ⟨A.h,rfl,A.mem,fun t=>?_,⟨by simp;omega,fun t ht=>hget t⟩,rfl,rfl,rfl,rfl⟩) ?_)
 ·show Rd M' false (nthE as t) ((vs ++ Array.replicate (fn.ntmps - vs.size) undef).getD t undef)
  rw [hget];exact nthE_rd hr t
 ·have fin:∀ a' w' st' M2,retW Γ fn args R st'->RelM (⟨w,fun b=>b ∈ F,S0,fun t=>vs.toList.getD t undef,hlay,[],List.nodup_nil,nofun⟩:Cx P) ⟨fn.ntmps,ioN args 0⟩ M2 st' a' w'->∃ v,(results fn a'.tmps).run P w' = .ok v w' /\
   ∃ v' r outs S' F',Ending.returned v = .returned v'/\R r outs/\Back w S0 F w' S' F'/\OdT (MiS S' w'.heap) (r :: outs) (v' :: ioV args vs.toList) F':=fun a' w' st' M2 hk R'=>by
   unfold retW at hk;obtain ⟨st',M2,hk,R',_⟩:=closeN_ok _ R' hk;unfold retW0 at hk;obtain ⟨ds,v,hk,hrv,hrun⟩:=results_run H R' hk;refine ⟨v,hrun,?_⟩;have hio:=ioD_rd R' (vs:=vs.toList) args vs.toList 0 (fun j=>by rw [Nat.zero_add]) hl (fun t ht=>R'.sz.2 t ht)
   have hall:RdT M2 false (resD ds :: ioD st'.env args 0) (v :: ioV args vs.toList):=by simp only [RdT];exact ⟨hrv,hio⟩
   obtain ⟨l',us,F',hk,G,hodl⟩:=lesL_giT R'.mem (fun d v us K=>giD_ok R'.mem 6 d v us K) _ _ [] _ hall hk
   cases l' with
   | nil=>exact hk.elim
   | cons r outs =>
     refine ⟨v,r,outs,fun b=>M2.S b\/S0 b,F',rfl,hk,⟨R'.os,R'.tape,R'.output,by rw [<-R'.h];exact R'.mem.size,fun b hb hn=>?_,fun b hb=>?_,fun b hb=>?_,G.nd,fun b hb hs=>?_,fun b hb=>?_⟩,?_⟩
     ·rw [<-R'.h];exact R'.mem.frame b hb hn
     ·exact .inr hb
     ·rcases hb with hb | hb
      ·rcases R'.mem.Sold b hb with h1 | h1 | h1
       ·exact .inl h1
       ·exact .inr (.inl ⟨h1,by rw [<-R'.h];exact R'.mem.Slt b hb⟩)
       ·exact .inr (.inr h1)
      ·exact .inl hb
     ·obtain ⟨n,_,_,n3,n4⟩:=G.at_ b hb
      rcases hs with hs | hs
      ·exact R'.mem.sepO n b n3 n4 hs
      ·rcases R'.mem.frO n b n3 n4 with h1 | h1
       ·exact absurd (hS b hs) (Nat.not_lt.2 h1)
       ·exact hFS b h1 hs
     ·obtain ⟨n,_,_,n3,n4⟩:=G.at_ b hb;exact (R'.mem.frO n b n3 n4).symm
     ·exact OdT.mono (M:=M2) (M':=MiS (fun b=>M2.S b\/S0 b) w'.heap) (fun b hb=>.inl hb) (fun b _=>by rw [R'.h];rfl) _ _ _ hodl (fun b _=>by rw [R'.h];rfl)
  intro e a' w' hq
  cases e with
  | normal=>obtain ⟨c',st',M2,hx,hk,R'⟩:=hq;exact leaves_all (a0:=a') hx rfl R' fun M3 w3 R3=>fin { a' with defers:=[] } w3 st' M3 hk R3
  | ret=>obtain ⟨c',st',M2,hx,hk,R'⟩:=hq;exact leaves_all (a0:=a') hx rfl R' fun M3 w3 R3=>fin { a' with defers:=[] } w3 st' M3 hk R3
  | exit j=>obtain ⟨c',st',M2,_,hk,R'⟩:=hq;exact hk.elim
  | goto l=>exact hq.elim| panic ch=>exact hq.elim| outgrown=>exact hq.elim
theorem Ct.of_W (H:TyOK P Γ) (hm:P.follows .mixedOrders=true) {f:FuncId} {fn:Func} (hf:P.funcs[f]? = some fn) (ords:Ords) (cuts:List Nat) (ho:fnOrd fn ords=true) {args:List D} {R:D->List D->Prop}
 (h:fnW P Γ fn ords cuts args R):Ct P f args R:=.of_X (X:=fun nt body=>WX P Γ nt ords cuts body) H hf ords ho (fun _ body st K ho h=>WX_ok H hm body st K ho h) h
theorem RelM.open_ (R:RelM c nt M st a w) {m:Nat} {x:D} {bx:Box} (hml:st.sto m≠.dead) (hf:(st.sto m).isFam=bx.isFam) (hx:Rd M false x (M.hv m)) (hb:BoxOK M m bx) :
 RelM c nt M ⟨fun t=>D.sub m x (st.env t),upd (fun j=>(st.sto j).sub m x) m bx,st.nxt⟩ a w:=by
 have hm:=R.mem.lt hml;have hle:M.LeBut M m:=⟨fun _ h=>h,fun _ _=>rfl,Nat.le_refl _,fun _ _ _=>rfl,fun _ _ _=>rfl,fun _ _ _=>rfl⟩
 have hx' : ∀ im,im=false->Rd M im x (M.hv m):=fun im e=>by rw [e];exact hx
 have live:∀ j,upd (fun j=>(st.sto j).sub m x) m bx j≠.dead->st.sto j≠.dead:=fun j hj=>by
  by_cases e:j=m
  ·rw [e];exact hml
  ·rw [upd_ne _ _ e] at hj;exact Box.sub_live.1 hj
 refine ⟨R.h,R.nx,⟨R.mem.size,R.mem.frame,R.mem.Slt,R.mem.Sold,fun n hn=>?_,fun n hn=>?_,fun n j b h1 h2=>R.mem.injO n j b (live n h1) (live j h2),fun n b h1=>R.mem.sepO n b (live n h1),fun n b h1=>R.mem.frO n b (live n h1),fun n h1 hf'=>R.mem.non n (live n h1) (by
  by_cases e:n=m
  ·subst e;dsimp only at hf';rw [upd_self] at hf';exact hf.trans hf'
  ·dsimp only at hf';rw [upd_ne _ _ e,Box.sub_fam] at hf';exact hf')⟩,fun t=>Rd.sub hle hx' _ _ _ (R.env t),R.sz,R.defs,R.os,R.tape,R.output⟩
 ·by_cases e:n=m
  ·subst e;dsimp only;rw [upd_self];exact hb
  ·dsimp only;rw [upd_ne _ _ e]
   exact (R.mem.box n hn).sub hle hx' hn e fun _ _=>rfl
 ·have e:n≠m:=fun e=>by subst e;exact absurd hm (Nat.not_lt.2 hn)
  dsimp only;rw [upd_ne _ _ e];have:=R.mem.dead n hn
  show (st.sto n).sub m _=_
  rw [this];rfl
theorem openW_ok {m:Nat} {x:Code} {K:Ex->St->Prop} {n:St->Prop} (hn:∀ st,n st->CodeOK P nt x st K) (h:openW m st n):CodeOK P nt x st K:=by
 refine ⟨fun c M a w R=>?_⟩;unfold openW at h;split at h
 case h_2=>exact h.elim
 rename_i e sz k f hs
 have hml:st.sto m≠.dead:=by rw [hs];simp
 have hm:=R.mem.lt hml;have hb:=R.mem.box m hm;rw [hs] at hb;obtain ⟨xs,⟨o1,o2⟩,o3,o4,o5⟩:=hb
 rcases o2 with ⟨hnil,hk0⟩ | ⟨g,cap,cur,p1,p2,p3,p4,p5,p6⟩
 ·exact (hn _ (h.1.1 (decide_eq_true hk0))).ok c M a w (R.open_ (x:=.nil) (bx:=.dead) hml (by rw [hs];rfl) (by simp only [Rd];exact hnil) trivial)
 ·have hρ:M.ρ m=some g:=by rw [o3,p1];rfl
  refine (hn _ (h.2.ok cap p3)).ok c M a w (R.open_ hml (by rw [hs];rfl) ?_ ⟨by rw [p1];rfl,g,cur,hρ,p2,p5,p3,p4,fun i hi=>?_⟩)
  ·simp only [Rd];exact ⟨trivial,hm,g,hρ,by rw [p1,Nat.zero_mul]⟩
  ·have hh:=o4 i hi;rw [<-p6] at hh
   have h2:i*sz+sz<=k*sz:=by rw [<-Nat.succ_mul];exact Nat.mul_le_mul_right _ hi
   have:=seg_seg cur.toList 0 (k*sz) (i*sz) sz h2;rw [show ((cur.toList.take (k*sz)).drop (i*sz)).take sz=(cur.toList.drop (i*sz)).take sz by simpa using this] at hh;exact hh
theorem Ct.of_Wo (H:TyOK P Γ) (hm:P.follows .mixedOrders=true) {f:FuncId} {fn:Func} (hf:P.funcs[f]? = some fn) (ords:Ords) (cuts:List Nat) (ho:fnOrd fn ords=true) {args:List D} {R:D->List D->Prop}
 (h:fnWo P Γ fn ords cuts args R):Ct P f args R :=
 .of_X (X:=fun nt body st K=>openW 0 st fun st=>WX P Γ nt ords cuts body st K) H hf ords ho (fun _ body _ K ho h=>openW_ok (fun st h=>WX_ok H hm body st K ho h) h) h
end
end Sx
namespace Sx
open Go
mutual
def wkD:D->D->Bool->Prop
 | .any,_,_=>True
 | .int k n,cur,_=>match cur with
   | .int k' n'=>match decide (k' = k) with
     | true=>n' = n| false=>False
   | _=>False
 | .lit b,cur,_=>match cur with
   | .lit b'=>b' = b| .bool b'=>b' = b| _=>False
 | .bool b,cur,_=>match cur with
   | .lit b'=>b' = b| .bool b'=>b' = b| _=>False
 | .str s,cur,_=>match cur with
   | .str s'=>s' = s| _=>False
 | .nil,cur,_=>match cur with
   | .nil=>True| _=>False
 | .null,cur,_=>match cur with
   | .null=>True| _=>False
 | .val _,_,_=>False
 | .nilfn,cur,_=>match cur with
   | .nilfn=>True| _=>False
 | .tab sz n f,cur,_=>match cur with
   | .nil=>n=0
   | .tab sz' n' f'=>match Nat.beq sz' sz with
     | true=>n' = n/\∀ i,i<n->f' i=f i| false=>False
   | .ftab _ sz' n' f'=>match Nat.beq sz' sz with
     | true=>n' = n/\∀ i,i<n->f' i=f i| false=>False
   | .foar _ sz' n' f'=>match Nat.beq sz' sz with
     | true=>n' = n/\∀ i,i<n->f' i=f i| false=>False
   | .ffam _ sz' n' f'=>match Nat.beq sz' sz with
     | true=>n' = n/\∀ i,i<n->rddL (f' i)=f i| false=>False
   | _=>False
 | .ftab e sz n f,cur,im=>match im with
   | true=>False
   | false=>match cur with
     | .nil=>n=0
     | .ftab e' sz' n' f'=>match Nat.beq e' e,Nat.beq sz' sz with
       | true,true=>n' = n/\∀ i,i<n->f' i=f i| _,_=>False
     | _=>False
 | .foar e sz n f,cur,im=>match im with
   | true=>False
   | false=>match cur with
     | .nil=>n=0
     | .ftab e' sz' n' f'=>match Nat.beq e' e,Nat.beq sz' sz with
       | true,true=>n' = n/\∀ i,i<n->f' i=f i| _,_=>False
     | .foar e' sz' n' f'=>match Nat.beq e' e,Nat.beq sz' sz with
       | true,true=>n' = n/\∀ i,i<n->f' i=f i| _,_=>False
     | _=>False
 | .ffam e sz n f,cur,im=>match im with
   | true=>False
   | false=>match cur with
     | .nil=>n=0
     | .ffam e' sz' n' f'=>match Nat.beq e' e,Nat.beq sz' sz with
       | true,true=>n' = n/\∀ i,i<n->LeF (f' i) (f i)| _,_=>False
     | .ftab e' sz' n' f'=>match Nat.beq e' e,Nat.beq sz' sz with
       | true,true=>n' = n/\∀ i,i<n->LeF (f' i) (f i)| _,_=>False
     | _=>False
 | .agg l,cur,im=>match cur with
   | .agg l'=>wkL l l' im| _=>False
 | .vec n g,cur,_=>match cur with
   | .vec n' g'=>match Nat.beq n' n with
     | true=>∀ i,i<n->g' i=g i| false=>False
   | _=>False
 | .tup l,cur,im=>match cur with
   | .tup l'=>wkL l l' im| _=>False
 | .fn f l,cur,im=>match cur with
   | .fn f' l'=>Vc (f' = f) (wkL l l' im)| _=>False
 | .ref l,cur,_=>match cur with
   | .ref l'=>wkL l l' true| .fbox l'=>wkL l l' true| _=>False
 | .fbox l,cur,im=>match im with
   | true=>False
   | false=>match cur with
     | .fbox l'=>wkL l l' false| _=>False
 | .own ..,_,_=>False| .loc ..,_,_=>False| .pel ..,_,_=>False| .rsl ..,_,_=>False| .mref _,_,_=>False
 | .fmapd sk kn n ks vs,cur,im=>match im with
   | true=>False
   | false=>match cur with
     | .fmapd sk' kn' n' ks' vs'=>match bEq sk' sk,Nat.beq kn' kn with
       | true,true=>n' = n/\∀ i,i<n->ks' i=ks i/\ImpD (vs' i) (vs i)| _,_=>False
     | _=>False
 | .fmap l,cur,im=>match im with
   | true=>False
   | false=>match cur with
     | .fmap l'=>l' = l| _=>False
 | .mapb l,cur,_=>match cur with
   | .mapb l'=>l' = l| .fmap l'=>l' = l| _=>False
def wkL:List D->List D->Bool->Prop
 | [],[],_=>True| d :: l,e :: l',im=>Two (wkD d e im) (wkL l l' im)| _,_,_=>False
end
theorem Od.rd_plain {M:Mi} {d:D} {v:Value} {F:List Nat} (h:Od M d v F) (hd:match d with | .ftab ..=>False | .foar ..=>False | .ffam ..=>False | .fbox _=>False | .agg _=>False | .tup _=>False | .fn ..=>False | .fmap _=>False | .fmapd ..=>False | _=>True):Rd M true d v/\F = []:=by
 cases d<;>simp only at hd<;>simpa only [Od] using h
section
variable {M:Mi}
def WkOK (M:Mi) (im:Bool) (F:List Nat) (p:Mi->List Nat->Prop) (q:Mi->Prop):Prop :=
 ∃ F' Z,(F' ++ Z).Perm F/\∀ S',(∀ b,M.S b->S' b)->(∀ b ∈ Z,S' b)->p (MiS S' M.h) F'/\(im=true->F' = []/\q (MiS S' M.h))
theorem MiS_le {S' : Nat->Prop} (h:∀ b,M.S b->S' b):M.Le (MiS S' M.h) true:=⟨h,fun _ _=>rfl,by simp,by simp,by simp,by simp⟩
theorem WkOK.plain {im:Bool} {d:D} {v:Value} (hd:∀ N,Rd N true d v->Od N d v []) (h:∀ S',(∀ b,M.S b->S' b)->Rd (MiS S' M.h) true d v):WkOK M im [] (fun N F=>Od N d v F) (fun N=>Rd N true d v) :=
 ⟨[],[],.refl _,fun S' hS _=>⟨hd _ (h S' hS),fun _=>⟨rfl,h S' hS⟩⟩⟩
mutual
theorem wkD_ok:∀ (d cur:D) (v:Value) (F:List Nat) (im:Bool),Od M cur v F->wkD d cur im->WkOK M im F (fun N F=>Od N d v F) (fun N=>Rd N true d v)
 | .any,cur,v,F,im,ho,h=>by
   refine ⟨[],F,by simp,fun S' _ _=>⟨by simp [Od,Rd],fun _=>⟨rfl,by simp [Rd]⟩⟩⟩
 | .int k n,cur,v,F,im,ho,h=>by
   simp only [wkD] at h;split at h
   ·split at h
    ·rename_i e;simp at e;subst e;subst h;obtain ⟨hr,rfl⟩:=Od.rd_plain ho trivial
     exact .plain (fun N h=>Od.of_rd _ _ h) fun S' hS=>Rd.mono (MiS_le hS) _ _ hr
    ·exact h.elim
   ·exact h.elim
 | .lit b,cur,v,F,im,ho,h | .bool b,cur,v,F,im,ho,h=>by
   simp only [wkD] at h;split at h
   ·subst h;obtain ⟨hr,rfl⟩:=Od.rd_plain ho trivial
    exact .plain (fun N h=>Od.of_rd _ _ h) fun S' hS=>by simpa only [Rd] using hr
   ·subst h;obtain ⟨hr,rfl⟩:=Od.rd_plain ho trivial
    exact .plain (fun N h=>Od.of_rd _ _ h) fun S' hS=>by simpa only [Rd] using hr
   ·exact h.elim
 | .str s,cur,v,F,im,ho,h=>by
   simp only [wkD] at h;split at h
   ·subst h;obtain ⟨hr,rfl⟩:=Od.rd_plain ho trivial
    exact .plain (fun N h=>Od.of_rd _ _ h) fun S' hS=>Rd.mono (MiS_le hS) _ _ hr
   ·exact h.elim
 | .nil,cur,v,F,im,ho,h | .null,cur,v,F,im,ho,h | .nilfn,cur,v,F,im,ho,h=>by
   simp only [wkD] at h;split at h
   ·obtain ⟨hr,rfl⟩:=Od.rd_plain ho trivial
    exact .plain (fun N h=>Od.of_rd _ _ h) fun S' hS=>Rd.mono (MiS_le hS) _ _ hr
   ·exact h.elim
 | .tab sz n f,cur,v,F,im,ho,h=>by
   simp only [wkD] at h;split at h
   ·subst h;obtain ⟨hr,rfl⟩:=Od.rd_plain ho trivial
    exact .plain (fun N h=>Od.of_rd _ _ h) fun S' hS=>Rd.nil_tab (by simpa only [Rd] using hr) sz f
   ·split at h
    ·rename_i e;have e:=nbq e;subst e;obtain ⟨rfl,hf⟩:=h;obtain ⟨hr,rfl⟩:=Od.rd_plain ho trivial
     refine .plain (fun N h=>Od.of_rd _ _ h) fun S' hS=>?_
     have hc1:=Rd.mono (MiS_le hS) _ _ hr;simp only [Rd] at hc1 ⊢;obtain ⟨a,cap,rfl,hn,hc'⟩:=hc1;exact ⟨a,cap,rfl,hn,fun i hi=>by rw [<-hf i hi];exact hc' i hi⟩
    ·exact h.elim
   ·rename_i e0 sz0 n0 f0;split at h
    ·rename_i e2;have e2:=nbq e2;subst e2;obtain ⟨rfl,hf⟩:=h;simp only [Od] at ho;obtain ⟨⟨xs,o1,o3,o4⟩,rfl⟩:=ho;refine ⟨[],v.ownBlock.toList,by simp,fun S' hS hZ=>?_⟩
     have hr:Rd (MiS S' M.h) true (.tab sz0 n0 f) v:=by
      simp only [Rd]
      rcases o1.2 with ⟨hnil,hn0⟩ | ⟨b,cap,cur,hg,hblk,hnc,hcm,hcs,ht⟩
      ·exact ⟨none,0,by rw [hnil,hn0],by omega,fun i hi=>by omega⟩
      ·refine ⟨some ⟨b,0,none⟩,cap,hg,hnc,fun i hi=>⟨b,0,rfl,hZ b (by rw [hg];simp [Value.ownBlock]),(xs.drop (i*_)).take _,(arr_cells o1.1 hi (o1.cells (by rw [hg];rfl))).1,?_,?_⟩⟩
       ·intro j hj;have:=(arr_cells o1.1 hi (o1.cells (by rw [hg];rfl))).2 j hj;rw [Nat.zero_add];exact this
       ·rw [<-hf i hi];exact RdL.mono (MiS_le hS) _ _ (o3 i hi)
     exact ⟨Od.of_rd _ _ hr,fun _=>⟨rfl,hr⟩⟩
    ·exact h.elim
   ·rename_i e0 sz0 n0 f0;split at h
    ·rename_i e2;have e2:=nbq e2;subst e2;obtain ⟨rfl,hf⟩:=h;simp only [Od] at ho;obtain ⟨⟨xs,o1,o3,o4⟩,rfl⟩:=ho;refine ⟨[],v.ownBlock.toList,by simp,fun S' hS hZ=>?_⟩
     have hr:Rd (MiS S' M.h) true (.tab sz0 n0 f) v:=own_tab (M:=MiS S' M.h) o1 rfl (fun b hb=>hZ b (by simp [hb])) fun i hi=>by
      rw [<-hf i hi];exact RdL.mono (MiS_le hS) _ _ (o3 i hi)
     exact ⟨Od.of_rd _ _ hr,fun _=>⟨rfl,hr⟩⟩
    ·exact h.elim
   ·rename_i e0 sz0 n0 f0;split at h
    ·rename_i e2;have e2:=nbq e2;subst e2;obtain ⟨rfl,hf⟩:=h;simp only [Od] at ho;obtain ⟨xs,Fs,o1,o3,o4,rfl⟩:=ho;refine ⟨[],v.ownBlock.toList ++ rowsF Fs n0,by simp,fun S' hS hZ=>?_⟩
     have hr:Rd (MiS S' M.h) true (.tab sz0 n0 f) v:=own_tab (M:=MiS S' M.h) o1 rfl (fun b hb=>hZ b (by simp [hb])) fun i hi=>by
      rw [<-hf i hi]
      exact (o3 i hi).rdd hS fun b hb=>hZ b (List.mem_append_right _ (rowsF_in hi hb))
     exact ⟨Od.of_rd _ _ hr,fun _=>⟨rfl,hr⟩⟩
    ·exact h.elim
   ·exact h.elim
 | .ffam e sz n f,cur,v,F,im,ho,h=>by
   simp only [wkD] at h;split at h
   ·exact h.elim
   ·split at h
    ·subst h;obtain ⟨hr,rfl⟩:=Od.rd_plain ho trivial;simp only [Rd] at hr;subst hr;refine ⟨[],[],.refl _,fun S' _ _=>⟨?_,nofun⟩⟩;simp only [Od];exact ⟨[],fun _=>[],⟨by simp,.inl ⟨rfl,rfl⟩⟩,fun i hi=>absurd hi (Nat.not_lt_zero i),nofun,by simp [rowsF,Value.ownBlock]⟩
    ·split at h
     ·rename_i q1 q2;have q1:=nbq q1;have q2:=nbq q2;subst q1 q2;obtain ⟨rfl,hf⟩:=h;simp only [Od] at ho;obtain ⟨xs,Fs,o1,o3,o4,rfl⟩:=ho;refine ⟨v.ownBlock.toList ++ rowsF Fs _,[],by rw [List.append_nil],fun S' hS _=>⟨?_,nofun⟩⟩;simp only [Od];exact ⟨xs,Fs,o1,fun i hi=>hf i hi _ _ _ (OdL.mono (M:=M) (M':=MiS S' M.h) hS (fun _ _=>rfl) _ _ _ (o3 i hi) fun _ _=>rfl),o4,rfl⟩
     ·exact h.elim
    ·split at h
     ·rename_i q1 q2;have q1:=nbq q1;have q2:=nbq q2;subst q1 q2;obtain ⟨rfl,hf⟩:=h;simp only [Od] at ho;obtain ⟨⟨xs,o1,o3,o4⟩,rfl⟩:=ho;refine ⟨v.ownBlock.toList,[],by simp,fun S' hS _=>⟨?_,nofun⟩⟩;simp only [Od];exact ⟨xs,fun _=>[],o1,fun i hi=>hf i hi _ _ _ (OdL.of_rd _ _ (RdL.mono (MiS_le hS) _ _ (o3 i hi))),o4,by rw [rowsF_nil,List.append_nil]⟩
     ·exact h.elim
    ·exact h.elim
 | .foar e sz n f,cur,v,F,im,ho,h=>by
   simp only [wkD] at h;split at h
   ·exact h.elim
   ·split at h
    ·subst h;obtain ⟨hr,rfl⟩:=Od.rd_plain ho trivial;simp only [Rd] at hr;subst hr;exact ⟨[],[],.refl _,fun S' _ _=>⟨by simp only [Od];exact ⟨⟨[],⟨by simp,.inl ⟨rfl,rfl⟩⟩,nofun,nofun⟩,rfl⟩,nofun⟩⟩
    ·split at h
     ·rename_i e1 e2;have e1:=nbq e1;have e2:=nbq e2;subst e1 e2;obtain ⟨rfl,hf⟩:=h;refine ⟨F,[],by simp,fun S' hS _=>⟨?_,nofun⟩⟩;simp only [Od] at ho ⊢;obtain ⟨⟨xs,o1,o3,o4⟩,rfl⟩:=ho;exact ⟨⟨xs,o1,fun i hi=>by rw [<-hf i hi];exact RdL.mono (MiS_le hS) _ _ (o3 i hi),o4⟩,rfl⟩
     ·exact h.elim
    ·split at h
     ·rename_i e1 e2;have e1:=nbq e1;have e2:=nbq e2;subst e1 e2;obtain ⟨rfl,hf⟩:=h;refine ⟨F,[],by simp,fun S' hS _=>⟨?_,nofun⟩⟩;simp only [Od] at ho ⊢;obtain ⟨⟨xs,o1,o3,o4⟩,rfl⟩:=ho;exact ⟨⟨xs,o1,fun i hi=>by rw [<-hf i hi];exact RdL.mono (MiS_le hS) _ _ (o3 i hi),o4⟩,rfl⟩
     ·exact h.elim
    ·exact h.elim
 | .ftab e sz n f,cur,v,F,im,ho,h=>by
   simp only [wkD] at h;split at h
   ·exact h.elim
   ·split at h
    ·subst h;obtain ⟨hr,rfl⟩:=Od.rd_plain ho trivial;simp only [Rd] at hr;subst hr;exact ⟨[],[],.refl _,fun S' _ _=>⟨by simp only [Od];exact ⟨⟨[],⟨by simp,.inl ⟨rfl,rfl⟩⟩,nofun,nofun⟩,rfl⟩,nofun⟩⟩
    ·split at h
     ·rename_i e1 e2;have e1:=nbq e1;have e2:=nbq e2;subst e1 e2;obtain ⟨rfl,hf⟩:=h;refine ⟨F,[],by simp,fun S' hS _=>⟨?_,nofun⟩⟩;simp only [Od] at ho ⊢;obtain ⟨⟨xs,o1,o3,o4⟩,rfl⟩:=ho;exact ⟨⟨xs,o1,fun i hi=>by rw [<-hf i hi];exact RdL.mono (MiS_le hS) _ _ (o3 i hi),o4⟩,rfl⟩
     ·exact h.elim
    ·exact h.elim
 | .agg l,cur,v,F,im,ho,h=>by
   simp only [wkD] at h;split at h
   ·simp only [Od] at ho;obtain ⟨cs,rfl,ho⟩:=ho;obtain ⟨F',Z,hp,hq⟩:=wkL_ok l _ cs.toList F im ho h;refine ⟨F',Z,hp,fun S' hS hZ=>?_⟩;obtain ⟨h1,h2⟩:=hq S' hS hZ;simp only [Od,Rd];exact ⟨⟨cs,rfl,h1⟩,fun hi=>⟨(h2 hi).1,cs,rfl,(h2 hi).2⟩⟩
   ·exact h.elim
 | .vec n g,cur,v,F,im,ho,h=>by
   simp only [wkD] at h;split at h
   ·split at h
    ·rename_i e;have e:=nbq e;subst e;obtain ⟨hr,rfl⟩:=Od.rd_plain ho trivial
     refine .plain (fun N h=>Od.of_rd _ _ h) fun S' hS=>?_
     have hc1:=Rd.mono (MiS_le hS) _ _ hr;simp only [Rd] at hc1 ⊢;obtain ⟨cs,rfl,hs,hc⟩:=hc1;refine ⟨cs,rfl,hs,fun i x hx=>?_⟩;have hi:=(Array.getElem?_eq_some_iff.1 hx).1;rw [hs] at hi;rw [<-h i hi];exact hc i x hx
    ·exact h.elim
   ·exact h.elim
 | .tup l,cur,v,F,im,ho,h=>by
   simp only [wkD] at h;split at h
   ·simp only [Od] at ho;obtain ⟨cs,rfl,ho⟩:=ho;obtain ⟨F',Z,hp,hq⟩:=wkT_ok l _ cs.toList F im ho h;refine ⟨F',Z,hp,fun S' hS hZ=>?_⟩;obtain ⟨h1,h2⟩:=hq S' hS hZ;simp only [Od,Rd];exact ⟨⟨cs,rfl,h1⟩,fun hi=>⟨(h2 hi).1,cs,rfl,(h2 hi).2⟩⟩
   ·exact h.elim
 | .fn f l,cur,v,F,im,ho,h=>by
   simp only [wkD] at h;split at h
   ·obtain ⟨rfl,h⟩:=h;simp only [Od] at ho;obtain ⟨cs,rfl,ho⟩:=ho;obtain ⟨F',Z,hp,hq⟩:=wkL_ok l _ cs.toList F im ho h;refine ⟨F',Z,hp,fun S' hS hZ=>?_⟩;obtain ⟨h1,h2⟩:=hq S' hS hZ;simp only [Od,Rd];exact ⟨⟨cs,rfl,h1⟩,fun hi=>⟨(h2 hi).1,cs,rfl,(h2 hi).2⟩⟩
   ·exact h.elim
 | .ref l,cur,v,F,im,ho,h=>by
   simp only [wkD] at h;split at h
   ·obtain ⟨hr,rfl⟩:=Od.rd_plain ho trivial;simp only [Rd] at hr;obtain ⟨b,off,rfl,hS0,vs,h1,h2⟩:=hr;obtain ⟨F',Z,hp,hq⟩:=wkL_ok l _ vs [] true (OdL.of_rd _ _ h2) h
    have hz:F' = []/\Z = []:=by
     have:=hp.length_eq;simp at this;exact this
    obtain ⟨rfl,rfl⟩:=hz
    refine .plain (fun N h=>Od.of_rd _ _ h) fun S' hS=>?_
    simp only [Rd];exact ⟨b,off,rfl,hS b hS0,vs,h1,((hq S' hS nofun).2 rfl).2⟩
   ·simp only [Od] at ho;obtain ⟨b,cs,ty,F1,rfl,h2,h3,rfl⟩:=ho;obtain ⟨F',Z,hp,hq⟩:=wkL_ok l _ cs.toList F1 true h3 h;refine ⟨[],b :: F1,by simp,fun S' hS hZ=>?_⟩
    have hr:Rd (MiS S' M.h) true (.ref l) (.pointer (some ⟨b,0,none⟩)):=by
     simp only [Rd];refine ⟨b,0,rfl,hZ b (by simp),cs.toList,?_,((hq S' hS fun x hx=>hZ x (List.mem_cons_of_mem _ (hp.mem_iff.1 (List.mem_append_right _ hx)))).2 rfl).2⟩;intro j hj;have:=cells_block h2 0 j (by simpa using hj);rw [List.drop_zero] at this;exact this
    exact ⟨Od.of_rd _ _ hr,fun _=>⟨rfl,hr⟩⟩
   ·exact h.elim
 | .fbox l,cur,v,F,im,ho,h=>by
   simp only [wkD] at h;split at h
   ·exact h.elim
   ·split at h
    ·simp only [Od] at ho;obtain ⟨b,cs,ty,F1,rfl,h2,h3,rfl⟩:=ho;obtain ⟨F',Z,hp,hq⟩:=wkL_ok l _ cs.toList F1 false h3 h;refine ⟨b :: F',Z,by simpa using hp,fun S' hS hZ=>⟨?_,nofun⟩⟩;simp only [Od];exact ⟨b,cs,ty,F',rfl,h2,(hq S' hS hZ).1,rfl⟩
    ·exact h.elim
 | .val _,cur,v,F,im,ho,h | .own _,cur,v,F,im,ho,h | .loc ..,cur,v,F,im,ho,h | .pel ..,cur,v,F,im,ho,h | .rsl ..,cur,v,F,im,ho,h | .mref _,cur,v,F,im,ho,h=>by simp [wkD] at h
 | .fmapd sk kn n ks vs,cur,v,F,im,ho,h=>by
   simp only [wkD] at h;split at h
   ·exact h.elim
   ·split at h
    ·rename_i sk' kn' n' ks' vs';split at h
     ·rename_i q1 q2;have q1:=bEq_of q1;have q2:=nbq q2;subst q1 q2;obtain ⟨rfl,hf⟩:=h;simp only [Od] at ho;obtain ⟨b,rfl,h2,rfl⟩:=ho;refine ⟨[b],[],by simp,fun S' hS hZ=>⟨?_,nofun⟩⟩;simp only [Od];refine ⟨b,rfl,(h2.le ⟨by simp [mkM],fun i x y hx hy=>?_⟩).mono (MiS_le hS),rfl⟩
      have hi:i<n':=by have:=(List.getElem?_eq_some_iff.1 hx).1;simpa [mkM] using this
      have hx' : x=(ks' i,vs' i):=by simp [mkM,hi] at hx;exact hx.symm
      have hy' : y=(ks i,vs i):=by simp [mkM,hi] at hy;exact hy.symm
      subst hx';subst hy';exact hf i hi
     ·exact h.elim
    ·exact h.elim
 | .fmap l,cur,v,F,im,ho,h=>by
   simp only [wkD] at h;split at h
   ·exact h.elim
   ·split at h
    ·subst h;simp only [Od] at ho;obtain ⟨b,rfl,h2,rfl⟩:=ho;exact ⟨[b],[],by simp,fun S' hS hZ=>⟨by simp only [Od];exact ⟨b,rfl,h2,rfl⟩,nofun⟩⟩
    ·exact h.elim
 | .mapb l,cur,v,F,im,ho,h=>by
   simp only [wkD] at h;split at h
   ·subst h;obtain ⟨hr,rfl⟩:=Od.rd_plain ho trivial
    exact .plain (fun N h=>Od.of_rd _ _ h) fun S' hS=>Rd.mono (MiS_le hS) _ _ hr
   ·rename_i l';subst h;simp only [Od] at ho;obtain ⟨b,rfl,h2,rfl⟩:=ho;refine ⟨[],[b],by simp,fun S' hS hZ=>?_⟩
    have hr:Rd (MiS S' M.h) true (.mapb l') (.map (some b)):=by
     simp only [Rd];exact ⟨b,rfl,hZ b (by simp),h2⟩
    exact ⟨Od.of_rd _ _ hr,fun _=>⟨rfl,hr⟩⟩
   ·exact h.elim
theorem wkL_ok:∀ (l cur:List D) (vs:List Value) (F:List Nat) (im:Bool),OdL M cur vs F->wkL l cur im->WkOK M im F (fun N F=>OdL N l vs F) (fun N=>RdL N true l vs)
 | [],[],[],F,im,ho,h=>by
   simp only [OdL] at ho;subst ho;exact ⟨[],[],.refl _,fun S' _ _=>⟨by simp [OdL],fun _=>⟨rfl,by simp [RdL]⟩⟩⟩
 | d :: l,e :: l',v :: vs,F,im,ho,h=>by
   simp only [OdL] at ho;simp only [wkL] at h;obtain ⟨h1,G1,G2,rfl,o1,o2⟩:=ho;obtain ⟨A1,Z1,p1,q1⟩:=wkD_ok d e v G1 im o1 h.1;obtain ⟨A2,Z2,p2,q2⟩:=wkL_ok l l' vs G2 im o2 h.2;refine ⟨A1 ++ A2,Z1 ++ Z2,?_,fun S' hS hZ=>?_⟩
   ·refine List.Perm.trans ?_ (p1.append p2);simp only [List.append_assoc];exact List.Perm.append_left _ (by rw [<-List.append_assoc,<-List.append_assoc];exact List.Perm.append_right _ List.perm_append_comm)
   ·obtain ⟨a1,a2⟩:=q1 S' hS fun b hb=>hZ b (List.mem_append_left _ hb)
    obtain ⟨b1,b2⟩:=q2 S' hS fun b hb=>hZ b (List.mem_append_right _ hb)
    simp only [OdL,RdL];exact ⟨⟨h1,A1,A2,rfl,a1,b1⟩,fun hi=>⟨by rw [(a2 hi).1,(b2 hi).1];rfl,h1,(a2 hi).2,(b2 hi).2⟩⟩
 | [],_ :: _,_,F,im,ho,h | _ :: _,[],_,F,im,ho,h=>by simp [wkL] at h
 | [],[],_ :: _,F,im,ho,h | _ :: _,_ :: _,[],F,im,ho,h=>by simp [OdL] at ho
theorem wkT_ok:∀ (l cur:List D) (vs:List Value) (F:List Nat) (im:Bool),OdT M cur vs F->wkL l cur im->WkOK M im F (fun N F=>OdT N l vs F) (fun N=>RdT N true l vs)
 | [],[],[],F,im,ho,h=>by
   simp only [OdT] at ho;subst ho;exact ⟨[],[],.refl _,fun S' _ _=>⟨by simp [OdT],fun _=>⟨rfl,by simp [RdT]⟩⟩⟩
 | d :: l,e :: l',v :: vs,F,im,ho,h=>by
   simp only [OdT] at ho;simp only [wkL] at h;obtain ⟨G1,G2,rfl,o1,o2⟩:=ho;obtain ⟨A1,Z1,p1,q1⟩:=wkD_ok d e v G1 im o1 h.1;obtain ⟨A2,Z2,p2,q2⟩:=wkT_ok l l' vs G2 im o2 h.2;refine ⟨A1 ++ A2,Z1 ++ Z2,?_,fun S' hS hZ=>?_⟩
   ·refine List.Perm.trans ?_ (p1.append p2);simp only [List.append_assoc];exact List.Perm.append_left _ (by rw [<-List.append_assoc,<-List.append_assoc];exact List.Perm.append_right _ List.perm_append_comm)
   ·obtain ⟨a1,a2⟩:=q1 S' hS fun b hb=>hZ b (List.mem_append_left _ hb)
    obtain ⟨b1,b2⟩:=q2 S' hS fun b hb=>hZ b (List.mem_append_right _ hb)
    simp only [OdT,RdT];exact ⟨⟨A1,A2,rfl,a1,b1⟩,fun hi=>⟨by rw [(a2 hi).1,(b2 hi).1];rfl,(a2 hi).2,(b2 hi).2⟩⟩
 | [],_ :: _,_,F,im,ho,h | _ :: _,[],_,F,im,ho,h=>by simp [wkL] at h
 | [],[],_ :: _,F,im,ho,h | _ :: _,_ :: _,[],F,im,ho,h=>by simp [OdT] at ho
end
end
def ioEq:List D->List D->Bool
 | [],[]=>true| .fbox _ :: l,.fbox _ :: l'=>ioEq l l'| .foar .. :: l,.foar .. :: l'=>ioEq l l'| .fbox _ :: _,_ :: _=>false| _ :: _,.fbox _ :: _=>false| .foar .. :: _,_ :: _=>false| _ :: _,.foar .. :: _=>false| .fmapd .. :: l,.fmapd .. :: l'=>ioEq l l'| .fmapd .. :: _,_ :: _=>false| _ :: _,.fmapd .. :: _=>false| _ :: l,_ :: l'=>ioEq l l'| _,_=>false
theorem ioEq_of:∀ {l l' : List D} (vs:List Value),ioEq l l' = true->ioV l vs=ioV l' vs
 | [],[],_,_=>rfl
 | d :: l,e :: l',[],h=>by cases d<;>cases e<;>rfl
 | d :: l,e :: l',v :: vs,h=>by
   cases d<;>cases e<;>simp only [ioEq,bft] at h<;>simp only [ioV]<;>first
    | exact ioEq_of vs h
    | rw [ioEq_of vs h]
 | [],_ :: _,_,h=>by simp [ioEq] at h
 | d :: _,[],_,h=>by cases d<;>simp [ioEq] at h
theorem nodup_of_perm {F' Z F:List Nat} (hp:(F' ++ Z).Perm F) (h:F.Nodup):F'.Nodup/\∀ b ∈ F',b ∉ Z:=by
 have:=List.nodup_append.1 (hp.nodup_iff.2 h);exact ⟨this.1,fun b hb hz=>this.2.2 b hb b hz rfl⟩
theorem Ct.arg {P:Program} {g:FuncId} {args args' : List D} {R:D->List D->Prop} (H:Ct P g args' R) (h:ioEq args' args=true/\wkL args' args false):Ct P g args R:=by
 refine ⟨H.fn,fun w S0 vs F hS hod hnd hFS=>?_⟩;obtain ⟨F',Z,hp,hq⟩:=wkT_ok args' args vs.toList F false hod h.2;have hod':=(hq (fun b=>S0 b\/b ∈ Z) (fun b hb=>.inl hb) (fun b hb=>.inr hb)).1;have hlt:=OdT.lt _ _ _ hod;obtain ⟨n1,n2⟩:=nodup_of_perm hp hnd
 have hF' : ∀ b ∈ F',b ∈ F:=fun b hb=>hp.mem_iff.1 (List.mem_append_left _ hb)
 have hZ:∀ b ∈ Z,b ∈ F:=fun b hb=>hp.mem_iff.1 (List.mem_append_right _ hb)
 obtain ⟨hFS,hlay⟩:=hFS;refine (H.ok w (fun b=>S0 b\/b ∈ Z) vs F' (fun b hb=>?_) hod' n1 ⟨fun b hb hs=>?_,fun x hx g hg=>⟨(hlay x hx g hg).1,fun hf=>(hlay x hx g hg).2.1 (hF' g hf),(hlay x hx g hg).2.2⟩⟩).mono ?_
 ·rcases hb with hb | hb
  ·exact hS b hb
  ·exact hlt b (hZ b hb)
 ·rcases hs with hs | hs
  ·exact hFS b (hF' b hb) hs
  ·exact n2 b hb hs
 ·rintro e w' ⟨v,r,outs,S',G,rfl,hR,hB,ho⟩
  refine ⟨v,r,outs,S',G,rfl,hR,⟨hB.os,hB.tape,hB.output,hB.size,fun b hb hn=>hB.old b hb (fun hf=>hn (hF' b hf)),fun b hb=>hB.S b (.inl hb),fun b hb=>?_,hB.nd,hB.FS,fun b hb=>(hB.Fnew b hb).imp (hF' b) id⟩,by rw [<-ioEq_of _ h.1];exact ho⟩
  rcases hB.Snew b hb with hb | hb | hb
  ·rcases hb with hb | hb
   ·exact .inl hb
   ·exact .inr (.inr (hZ b hb))
  ·exact .inr (.inl hb)
  ·exact .inr (.inr (hF' b hb))
theorem Ct.res {P:Program} {g:FuncId} {args:List D} {R:D->List D->Prop} (H:Ct P g args fun r outs=>∃ r' outs',R r' outs'/\wkD r' r false/\wkL outs' outs false):Ct P g args R:=by
 refine ⟨H.fn,fun w S0 vs F hS hod hnd hFS=>(H.ok w S0 vs F hS hod hnd hFS).mono ?_⟩
 rintro e w' ⟨v,r,outs,S',G,rfl,⟨r',outs',hR,h1,h2⟩,hB,ho⟩
 obtain ⟨F',Z,hp,hq⟩:=wkT_ok (r' :: outs') (r :: outs) _ G false ho (by simp only [wkL];exact ⟨h1,h2⟩);obtain ⟨n1,n2⟩:=nodup_of_perm hp hB.nd;have hlt:=OdT.lt _ _ _ ho
 have hF' : ∀ b ∈ F',b ∈ G:=fun b hb=>hp.mem_iff.1 (List.mem_append_left _ hb)
 have hZ:∀ b ∈ Z,b ∈ G:=fun b hb=>hp.mem_iff.1 (List.mem_append_right _ hb)
 refine ⟨v,r',outs',fun b=>S' b\/b ∈ Z,F',rfl,hR,⟨hB.os,hB.tape,hB.output,hB.size,hB.old,fun b hb=>.inl (hB.S b hb),fun b hb=>?_,n1,fun b hb hs=>?_,fun b hb=>hB.Fnew b (hF' b hb)⟩,(hq _ (fun b hb=>.inl hb) (fun b hb=>.inr hb)).1⟩
 ·rcases hb with hb | hb
  ·exact hB.Snew b hb
  ·rcases hB.Fnew b (hZ b hb) with h | h
   ·exact .inr (.inr h)
   ·exact .inr (.inl ⟨h,hlt b (hZ b hb)⟩)
 ·rcases hs with hs | hs
  ·exact hB.FS b (hF' b hb) hs
  ·exact n2 b hb hs
theorem Ct.det {P:Program} {g:FuncId} {args:List D} {R0:D} {O0:List D} (H:Ct P g args fun r outs=>Two (wkD R0 r false) (wkL O0 outs false)):Ct P g args fun r outs=>r=R0/\outs=O0 :=
 .res (H.mono fun _ _ h=>⟨R0,O0,⟨rfl,rfl⟩,h.l,h.r⟩)
theorem Ct.some {P:Program} {g:FuncId} {args:List D} {Y:Type} {φ:Y->Prop} {R0:Y->D} {O0:Y->List D} (H:Ct P g args fun r outs=>Lf φ fun y=>Two (wkD (R0 y) r false) (wkL (O0 y) outs false)) :
 Ct P g args fun r outs=>∃ y,φ y/\r=R0 y/\outs=O0 y :=
 .res (H.mono fun _ _ h=>by
  obtain ⟨y,hy,h⟩:=h.ok
  exact ⟨R0 y,O0 y,⟨y,hy,rfl,rfl⟩,h.l,h.r⟩)
theorem Ct.some2 {P:Program} {g:FuncId} {args:List D} {Y Z:Type} {φ:Y->Z->Prop} {R0:Y->Z->D} {O0:Y->Z->List D} (H:Ct P g args fun r outs=>Lf2 φ fun y z=>Two (wkD (R0 y z) r false) (wkL (O0 y z) outs false)) :
 Ct P g args fun r outs=>∃ y z,φ y z/\r=R0 y z/\outs=O0 y z :=
 .res (H.mono fun _ _ h=>by
  obtain ⟨y,z,hy,h⟩:=h.ok
  exact ⟨R0 y z,O0 y z,⟨y,z,hy,rfl,rfl⟩,h.l,h.r⟩)
theorem Ct.some3 {P:Program} {g:FuncId} {args:List D} {X Y Z:Type} {φ:X->Y->Z->Prop} {R0:X->Y->Z->D} {O0:X->Y->Z->List D} (H:Ct P g args fun r outs=>Lf3 φ fun x y z=>Two (wkD (R0 x y z) r false) (wkL (O0 x y z) outs false)) :
 Ct P g args fun r outs=>∃ x y z,φ x y z/\r=R0 x y z/\outs=O0 x y z :=
 .res (H.mono fun _ _ h=>by
  obtain ⟨x,y,z,hy,h⟩:=h.ok
  exact ⟨R0 x y z,O0 x y z,⟨x,y,z,hy,rfl,rfl⟩,h.l,h.r⟩)
theorem Met.inl {P:Program} {Γ:Ty} (H:TyOK P Γ) (hm:P.follows .mixedOrders=true) {f:FuncId} {fn:Func} (hf:P.funcs[f]? = Option.some fn) (ords:Ords) (cuts:List Nat) (ho:fnOrd fn ords=true) {args:List D} {K:D->List D->Prop}
 (h:Step (fnW P Γ fn ords cuts args K)):Met P f args K:=⟨⟨K,.of_W H hm hf ords cuts ho h.out,fun _ _ h=>h⟩⟩
end Sx
namespace Sx
open Go
section
variable {P:Program} {Γ:Ty} {c:Cx P} {nt:Nt} {M:Mi} {st:St} {a:Act} {w:World}
def inK (Γ:Ty) (fn:Func) (k:Nat) (V:Nat->Value) (K:D->St->Prop):Ex->St->Prop
 | .exit _,_=>False
 | .normal,st=>resL Γ st fn.results.toList fun ds=>match st.sto k with
   | .gho V' e=>Vc (V' = V) (st.on fun _ s_ k_=>K (resD ds) ⟨e,upd s_ k .dead,k_⟩)| .ghs V' e=>Vc (V' = V) (st.on fun _ s_ k_=>K (resD ds) ⟨lkE e,upd s_ k .dead,k_⟩)| _=>False
 | .ret,st=>resL Γ st fn.results.toList fun ds=>match st.sto k with
   | .gho V' e=>Vc (V' = V) (st.on fun _ s_ k_=>K (resD ds) ⟨e,upd s_ k .dead,k_⟩)| .ghs V' e=>Vc (V' = V) (st.on fun _ s_ k_=>K (resD ds) ⟨lkE e,upd s_ k .dead,k_⟩)| _=>False
def inW (P:Program) (Γ:Ty) (fn:Func) (ords:Ords) (cuts:List Nat) (args:List D) (st:St) (V:Nat->Value) (K:D->St->Prop):Prop :=
 match fn.body with
 | some body=>match Nat.ble args.length fn.ntmps with
   | true=>st.on fun e_ s_ k_=>WX P Γ ⟨fn.ntmps,[]⟩ ords cuts body ⟨nthE args,upd s_ k_ (.gho V e_),k_+1⟩ (inK Γ fn k_ V K)
   | false=>False
 | none=>False
theorem CallOK.inl (H:TyOK P Γ) (hm:P.follows .mixedOrders=true) {f:FuncId} {fn:Func} (hf:P.funcs[f]? = some fn) (ords:Ords) (cuts:List Nat) (ho:fnOrd fn ords=true) {args:List D} {K:D->St->Prop}
 (h:∀ V:Nat->Value,Step (inW P Γ fn ords cuts args st V K)):CallOK P f args st K:=by
 unfold fnOrd at ho
 have hbody:∃ body,fn.body=some body:=by
  cases hb:fn.body with
  | none=>rw [hb] at ho;simp at ho
  | some b=>exact ⟨b,rfl⟩
 obtain ⟨body,hb⟩:=hbody;rw [hb] at ho;simp only [bat,Bool.not_eq_true'] at ho;obtain ⟨ho,hname⟩:=ho;refine ⟨⟨fn,hf,by rw [hb];rfl,hname⟩,fun c nt M a w vs R hv=>?_⟩;have h:=(h fun t=>a.tmps.getD t undef).out;unfold inW at h;rw [hb] at h;simp only at h;split at h
 case h_2=>exact h.elim
 rename_i hlen;have hlen:=Nat.le_of_ble_eq_true hlen
 have hl:args.length=vs.toList.length:=by
  have:∀ (l:List D) (us:List Value),RdT M false l us->l.length=us.length:=fun l=>by
   induction l with
   | nil=>intro us h;cases us with
     | nil=>rfl| cons=>simp [RdT] at h
   | cons d l ih=>intro us h;cases us with
     | nil=>simp [RdT] at h
     | cons u us=>simp only [RdT] at h;simp [ih us h.2]
  exact this _ _ hv
 have hvs:vs.size<=fn.ntmps:=by simp at hl;omega
 have hget:∀ t,(vs ++ Array.replicate (fn.ntmps - vs.size) undef).getD t undef=vs.toList.getD t undef:=fun t=>by
  rw [Array.getD_eq_getD_getElem?,gDe,Array.getElem?_append,Array.getElem?_toList];split
  ·rfl
  ·rename_i h;rw [Array.getElem?_eq_none (xs:=vs) (Nat.le_of_not_lt h),Array.getElem?_replicate]
   split<;>rfl
 have hle:=M.give_le none (.pointer none) false;have hm1:=R.mem.adopt none (.pointer none) (.gho (fun t=>a.tmps.getD t undef) st.env) ⟨by simp [Mi.give,upd_self],fun t=>Rd.mono hle _ _ (R.env t)⟩ nofun nofun nofun;obtain ⟨e_,s_,k_⟩:=st;have hnx:M.nx=k_:=R.nx;subst hnx
 refine calls_marks hf hb (wp_mono ((WX_ok H hm body _ _ ho h).ok { c with dm:=[],nd:=List.nodup_nil,mks:=nofun } (M.give none (.pointer none)) { tmps:=vs ++ Array.replicate (fn.ntmps - vs.size) undef,defers:=[] } w
  ⟨R.h,rfl,⟨hm1.size,hm1.frame,hm1.Slt,hm1.Sold,hm1.box,hm1.dead,hm1.injO,hm1.sepO,hm1.frO,hm1.non⟩,fun t=>?_,⟨by simp;omega,fun t ht=>by simp [memN] at ht⟩,rfl,R.os,R.tape,R.output⟩) ?_)
 ·show Rd _ false (nthE args t) ((vs ++ Array.replicate (fn.ntmps - vs.size) undef).getD t undef)
  rw [hget]
  have hv' : ∀ (l:List D) (us:List Value),RdT M false l us->RdT (M.give none (.pointer none)) false l us:=fun l us h=>RdT.mono hle l us h
  exact nthE_rd (hv' _ _ hv) t
 ·have fin:∀ a' w' st' M2,(resL Γ st' fn.results.toList fun ds=>match st'.sto M.nx with
   | .gho V' e=>Vc (V' = fun t=>a.tmps.getD t undef) (st'.on fun _ s_ k_=>K (resD ds) ⟨e,upd s_ M.nx .dead,k_⟩)| .ghs V' e=>Vc (V' = fun t=>a.tmps.getD t undef) (st'.on fun _ s_ k_=>K (resD ds) ⟨lkE e,upd s_ M.nx .dead,k_⟩)
   | _=>False)->RelM { c with dm:=[],nd:=List.nodup_nil,mks:=nofun } ⟨fn.ntmps,[]⟩ M2 st' a' w'->∃ v,(results fn a'.tmps).run P w' = .ok v w' /\
   ∃ d st'' M' v',Ending.returned v = .returned v'/\K d st''/\RelM c nt M' st'' a w'/\Rd M' false d v':=fun a' w' st' M2 hk R'=>by
   obtain ⟨ds,v,hk,hrv,hrun⟩:=results_run H R' hk;refine ⟨v,hrun,?_⟩;have hm' : Mem c M2 st'.sto:=⟨R'.mem.size,R'.mem.frame,R'.mem.Slt,R'.mem.Sold,R'.mem.box,R'.mem.dead,R'.mem.injO,R'.mem.sepO,R'.mem.frO,R'.mem.non⟩;split at hk
   ·rename_i V' e hs;obtain ⟨rfl,hk⟩:=hk;obtain ⟨e2,s2,k2⟩:=st';have hs:s2 M.nx = .gho (fun t=>a.tmps.getD t undef) e:=hs
    have hd:s2 M.nx≠.dead:=by rw [hs];simp
    have hb2:BoxOK M2 M.nx (s2 M.nx):=R'.mem.box M.nx (R'.mem.lt hd);rw [hs] at hb2;exact ⟨_,_,M2,v,rfl,hk,⟨R'.h,R'.nx,hm'.kill M.nx,hb2.2,R.sz,R.defs,R'.os,R'.tape,R'.output⟩,hrv⟩
   ·rename_i V' e hs;obtain ⟨rfl,hk⟩:=hk;obtain ⟨e2,s2,k2⟩:=st';have hs:s2 M.nx = .ghs (fun t=>a.tmps.getD t undef) e:=hs
    have hd:s2 M.nx≠.dead:=by rw [hs];simp
    have hb2:BoxOK M2 M.nx (s2 M.nx):=R'.mem.box M.nx (R'.mem.lt hd);rw [hs] at hb2;exact ⟨_,_,M2,v,rfl,hk,⟨R'.h,R'.nx,hm'.kill M.nx,hb2.2,R.sz,R.defs,R'.os,R'.tape,R'.output⟩,hrv⟩
   ·exact hk.elim
  intro e a' w' hq
  cases e with
  | normal=>obtain ⟨c',st',M2,hx,hk,R'⟩:=hq;exact leaves_all (a0:=a') hx rfl R' fun M3 w3 R3=>fin { a' with defers:=[] } w3 st' M3 hk R3
  | ret=>obtain ⟨c',st',M2,hx,hk,R'⟩:=hq;exact leaves_all (a0:=a') hx rfl R' fun M3 w3 R3=>fin { a' with defers:=[] } w3 st' M3 hk R3
  | exit j=>obtain ⟨c',st',M2,_,hk,R'⟩:=hq;exact hk.elim
  | goto l=>exact hq.elim| panic ch=>exact hq.elim| outgrown=>exact hq.elim
def ccD (st:St) (args:List D) (K:Nat->Nat->Bool->D->Prop):Prop :=
 match args with
 | [.loc n 0]=>match st.sto n with
   | .bld ty u q=>K n ty u q| _=>False
 | _=>False
theorem CallOK.cc {g:FuncId} {args:List D} {K:D->St->Prop} {T:Nat} (hfn:FnOK P g)
 (h1:∀ (b:Nat) (w:World),w.cell? ⟨b,0,none⟩=some (.pointer (some ⟨b,0,none⟩))->Calls P g #[.pointer (some ⟨b,0,none⟩)] w fun e w'=>e = .returned (.tuple #[])/\w' = w)
 (h0:∀ (b:Nat) (w:World),w.cell? ⟨b,0,none⟩=some (.pointer none)->w.shape? b=some (T,2)->w.frozen? ⟨b,0,none⟩=false->Calls P g #[.pointer (some ⟨b,0,none⟩)] w fun e w'=>e = .returned (.tuple #[])/\w' = w.setCell ⟨b,0,none⟩ (.pointer (some ⟨b,0,none⟩)))
 (h:ccD st args fun n ty u q=>Vc (ty=T) (st.on fun e_ s_ k_=>K (.tup []) ⟨e_,upd s_ n (.bld ty true q),k_⟩)):CallOK P g args st K:=by
 refine ⟨hfn,fun c nt M a w vs R hv=>?_⟩;unfold ccD at h;split at h
 case h_2=>exact h.elim
 rename_i n;split at h
 case h_2=>exact h.elim
 rename_i ty u q hs;obtain ⟨rfl,h⟩:=h
 obtain ⟨v,rfl⟩:∃ v,vs = #[v]:=by
  match vs,hv with
  | ⟨[v]⟩,_=>exact ⟨v,rfl⟩| ⟨[]⟩,h=>simp [RdT] at h| ⟨_ :: _ :: _⟩,h=>simp [RdT] at h
 simp only [RdT,Rd] at hv;obtain ⟨⟨_,hn,b,hρ,rfl⟩,_⟩:=hv;have hbx:=R.mem.box n hn;rw [hs] at hbx;obtain ⟨b',x,e1,e2,e3,e4⟩:=hbx;rw [hρ] at e1;cases e1
 have hw:w.heap[b]? = some (.cells #[bif u then .pointer (some ⟨b,0,none⟩) else .pointer none,x] ty (0,0)):=by rw [<-R.h];exact e2
 cases u with
 | true =>
   refine (h1 b w (by simp [World.cell?,hw])).mono ?_
   rintro e w' ⟨rfl,rfl⟩
   obtain ⟨e_,s_,k_⟩:=st;refine ⟨_,_,M,_,rfl,h,⟨R.h,R.nx,?_,R.env,R.sz,R.defs,R.os,R.tape,R.output⟩,by simp [Rd,RdT]⟩
   have:upd s_ n (.bld ty true q)=s_:=by
    funext m
    by_cases e:m=n
    ·subst e;rw [upd_self];exact hs.symm
    ·rw [upd_ne _ _ e]
   show Mem c M (upd s_ n (.bld ty true q))
   rw [this];exact R.mem
 | false =>
   refine (h0 b w (by simp [World.cell?,hw]) (by simp [World.shape?,hw]) (by simp [World.frozen?,hw])).mono ?_
   rintro e w' ⟨rfl,rfl⟩
   have hset:w.setCell ⟨b,0,none⟩ (.pointer (some ⟨b,0,none⟩))=w.setRow b #[.pointer (some ⟨b,0,none⟩),x]:=by
    unfold World.setCell World.setRow
    congr 1
    apply Array.ext_getElem?;intro i;simp only [Array.getElem?_modify];by_cases e:b=i
    ·subst e;simp [hw]
    ·simp [e]
   rw [hset]
   obtain ⟨M',R'⟩:=R.store (by rw [hs];simp) (by rw [hs];rfl) hρ (cs:=#[.pointer (some ⟨b,0,none⟩),x]) e2 (bx:=.bld ty true q) fun M' hle hρ' _ hb'=>⟨b,x,hρ',hb',e3,Rd.mono hle _ _ e4⟩
   exact ⟨_,_,M',_,rfl,h,R',by simp [Rd,RdT]⟩
end
end Sx
namespace Sx
open Go
def noDef (o:Oper):Bool:=match o.op with
 | .defer _=>false| _=>true
def inOK:Code->Bool
 | .skip | .label _ | .exit _ | .ret=>true| .region _ ops _=>ops.toList.all noDef| .seq a b=>inOK a && inOK b| .cond _ a b=>inOK a && inOK b| .block _ b=>inOK b| _=>false
section
variable {P:Program} {l n:Nat} {Q:Exit->Act->World->Prop}
theorem upon_in {o:Oper} {a:Act} {next next' : Act->World->Prop} (hn:∀ a w,next a w->next' a w) (r:Result Next) (h:o.upon P a next Q r):o.uponIn (Fence.wide.inRound l) n P a next' Q r:=by
 cases r with
 | ok x w' =>
   cases x<;>simp only [Oper.upon] at h<;>simp only [Oper.uponIn] <;>
    first
     | exact hn _ _ h
     | exact ⟨fun e=>by simp [Fence.wide,Fence.inRound] at e,(callsIn_wide (n:=n - 1)).2 (h.mono fun e w'' he=>by cases e<;>first | exact hn _ _ he | exact he)⟩
     | exact ⟨fun e=>by simp [Fence.wide,Fence.inRound] at e,fun c cs _=>by
      obtain ⟨v,w2,h1,h2⟩:=h c cs
      exact ⟨v,w2,hn _ _ h1,stepsIn_wide.2 h2⟩⟩
 | halt x w'=>cases x<;>simp only [Oper.upon] at h<;>simp only [Oper.uponIn]<;>exact h
theorem op_in {o:Oper} (ho:noDef o=true) {a:Act} {w:World} {next next' : Act->World->Prop} (hn:∀ a w,next a w->next' a w) (h:o.wp P a w next Q):o.wpIn (Fence.wide.inRound l) n P a w next' Q:=by
 refine ⟨fun _ _=>trivial,?_⟩;rw [Oper.semAt_eq _ _ _ (fun c e=>by simp [noDef,e] at ho)];exact upon_in hn _ h
theorem list_in (hQ:¬ LetsOut Q) {ops:Array Oper}:∀ (os:List Oper),os.all noDef=true->∀ a w,wpList P ops Q os a w->wpListIn (Fence.wide.inRound l) n P ops Q os a w
 | [],_,a,w,h=>h
 | o :: os,ho,a,w,h=>by
   simp only [List.all_cons,bat] at ho;simp only [wpList] at h;simp only [wpListIn];split
   ·rename_i hw;rw [if_pos hw] at h
    rcases h with h | h
    ·exact op_in ho.1 (fun a w h=>list_in hQ os ho.2 a w h) h
    ·exact absurd h.2 hQ
   ·rename_i hw;rw [if_neg hw] at h;exact ⟨fun _ _=>trivial,list_in hQ os ho.2 _ w h⟩
theorem opn_in (hQ:¬ LetsOut Q) {ops:Array Oper} (hop:ops.toList.all noDef=true) {i:Nat} {a:Act} {w:World} {K K' : Act->World->Prop} (hk:∀ a w,K a w->K' a w) (h:wpOp P ops Q i K a w):wpOpIn (Fence.wide.inRound l) n P ops Q i K' a w:=by
 unfold wpOp at h;unfold wpOpIn;split
 ·rename_i e;rw [e] at h;exact hk _ _ h
 ·rename_i o e;rw [e] at h;have hno:noDef o=true:=List.all_eq_true.1 hop o (by rw [Array.mem_toList_iff];exact Array.mem_of_getElem? e);simp only at h;split
  ·rename_i hw;rw [if_pos hw] at h
   rcases h with h | h
   ·exact op_in hno hk h
   ·exact absurd h.2 hQ
  ·rename_i hw;rw [if_neg hw] at h;exact ⟨fun _ _=>trivial,hk _ _ h⟩
theorem any_in (hQ:¬ LetsOut Q) {md:Region.Mode} {ops:Array Oper} (hop:ops.toList.all noDef=true):∀ (f:Nat) (s:Array Bool) (a:Act) (w:World),wpAny P md ops Q f s a w->wpAnyIn (Fence.wide.inRound l) n P md ops Q f s a w
 | 0,s,a,w,h=>h| f+1,s,a,w,h=>⟨h.1,fun i hi=>opn_in hQ hop (fun a w h=>any_in hQ hop f _ a w h) (h.2 i hi)⟩
end
section
variable {P:Program} {Γ:Ty} {c:Cx P} {nt:Nt} {M:Mi} {st:St} {a:Act} {w:World} {ords:Ords}
structure CodeIn (P:Program) (nt:Nt) (x:Code) (st:St) (K:Ex->St->Prop):Prop where
 ok:∀ (c:Cx P) (M:Mi) (a:Act) (w:World) (l n:Nat),RelM c nt M st a w->x.wpIn (Fence.wide.inRound l) n P (QK c nt K) a w
theorem qk_out (c:Cx P) (nt:Nt) (K:Ex->St->Prop):¬ LetsOut (QK c nt K):=fun ⟨_,_,h⟩=>h
theorem qk_thenIn (K:Ex->St->Prop) (m:St->Prop) {y:Code} {l n:Nat} (hy:∀ (c:Cx P) st M a w,m st->RelM c nt M st a w->y.wpIn (Fence.wide.inRound l) n P (QK c nt K) a w):∀ e a w,QK c nt (thenW K m) e a w->Exit.then (y.wpIn (Fence.wide.inRound l) n P (QK c nt K)) (QK c nt K) e a w:=by
 intro e a w h
 cases e with
 | normal =>
   obtain ⟨c',st,M,hx,h,R⟩:=h;exact wpIn_mono (hy c' st M a w h R) (QK.ext hx)
 | exit j=>exact h| ret=>exact h| goto l=>exact h.elim| panic ch=>exact h.elim| outgrown=>exact h.elim
theorem W_in (H:TyOK P Γ) (hm:P.follows .mixedOrders=true):∀ (x:Code) (st:St) (K:Ex->St->Prop),inOK x=true->ordsOK ords x=true->W P Γ nt ords [] x st K->CodeIn P nt x st K
 | .skip,st,K,_,_,h=>⟨fun c M a w l n R=>wpIn_skip ⟨c,st,M,.refl c,h,R⟩⟩| .label _,st,K,_,_,h=>⟨fun c M a w l n R=>wpIn_label ⟨c,st,M,.refl c,h,R⟩⟩| .exit id,st,K,_,_,h=>⟨fun c M a w l n R=>wpIn_exit ⟨c,st,M,.refl c,h,R⟩⟩| .ret,st,K,_,_,h=>⟨fun c M a w l n R=>wpIn_ret ⟨c,st,M,.refl c,h,R⟩⟩| .region id ops false,st,K,hi,_,h=>⟨fun c M a w l n R=>wpIn_region_list (list_in (qk_out c nt K) _ hi _ _ (opsW_ok H ops (fun st' M' a' w' hk R'=>⟨c,st',M',.refl c,hk,R'⟩) ops.toList st M a w R h))⟩
 | .region id ops true,st,K,hi,ho,h=>by
   simp only [W] at h;simp only [ordsOK] at ho
   cases hl:lkO ords id with
   | none=>rw [hl] at h;exact h.elim
   | some t =>
     rw [hl] at h ho;simp only [bat] at ho;obtain ⟨A,hA,hoA⟩:=masksF_of (ops:=ops) ops.toList 0 [] _ (fun i=>by simp) (fun j hj=>absurd hj (Nat.not_lt_zero j)) ho.1.2;rw [Nat.zero_add,Array.length_toList] at hA;rw [fstA_eq] at hoA;exact ⟨fun c M a w l n R=>wpIn_region_any hm (any_in (qk_out c nt K) hi _ _ _ _ (wpAny_of_W _ _ _ _ <| otW_ok H hA ho.1.1 (fun ch a w h=>h) (fun st' M' a' w' hk R'=>⟨c,st',M',.refl c,hk,R'⟩) t ops.size _ st M a _ (Nat.le_of_ble_eq_true ho.2) (dc_start _ _) hoA R.drew h))⟩
 | .seq x y,st,K,hi,ho,h=>by
   simp only [W] at h;simp only [ordsOK,bat] at ho;simp only [inOK,bat] at hi
   have hc:cutAt [] x=false:=by unfold cutAt;split<;>rfl
   rw [hc] at h;exact ⟨fun c M a w l n R=>wpIn_seq (wpIn_mono ((W_in H hm x st _ hi.1 ho.1 h).ok c M a w l n R) (qk_thenIn K _ fun c st M a w h R=>(W_in H hm y st K hi.2 ho.2 h).ok c M a w l n R))⟩
 | .cond b x y,st,K,hi,ho,h=>by
   simp only [W] at h;simp only [ordsOK,bat] at ho;simp only [inOK,bat] at hi;refine ⟨fun c M a w l n R=>?_⟩;have he:=evD_rd (a:=a) R.env b;split at h
   ·rename_i hb;rw [hb] at he;simp only [Rd] at he;exact wpIn_cond_true he ((W_in H hm x st K hi.1 ho.1 h).ok c M a w l n R)
   ·rename_i hb;rw [hb] at he;simp only [Rd] at he;exact wpIn_cond_false he ((W_in H hm y st K hi.2 ho.2 h).ok c M a w l n R)
   ·rename_i hb;rw [hb] at he;simp only [Rd] at he;exact wpIn_cond_split he (fun e=>(W_in H hm x st K hi.1 ho.1 (h.1 e)).ok c M a w l n R) (fun e=>(W_in H hm y st K hi.2 ho.2 (h.2 e)).ok c M a w l n R)
   ·exact h.elim
 | .block id x,st,K,hi,ho,h=>by
   simp only [W] at h;simp only [ordsOK] at ho;simp only [inOK] at hi;exact ⟨fun c M a w l n R=>wpIn_block (wpIn_mono ((W_in H hm x st _ hi ho h).ok c M a w l n R) (QK.block K id))⟩
 | .loop b,st,K,hi,_,h=>by simp [inOK] at hi
 | .rangeFunc ..,st,K,hi,_,h=>by simp [inOK] at hi
 | .scope _,st,K,hi,_,h=>by simp [inOK] at hi
 | .goto _,st,K,hi,_,h=>by simp [inOK] at hi
 | .refuse _,st,K,hi,_,h=>by simp [inOK] at hi
theorem WX_in (H:TyOK P Γ) (hm:P.follows .mixedOrders=true) (x:Code) (st:St) (K:Ex->St->Prop) (hi:inOK x=true) (ho:ordsOK ords x=true) (h:WX P Γ nt ords [] x st K):CodeIn P nt x st K :=
 W_in H hm x st K hi ho (by rw [<-WX_eq];exact h)
end
end Sx
