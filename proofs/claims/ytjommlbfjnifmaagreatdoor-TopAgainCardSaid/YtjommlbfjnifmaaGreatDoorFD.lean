/-
  Texts and lists of texts, for the contracts of this proof.
  No condition beyond those written in each theorem.
-/
import Derived.Test.YtjommlbfjnifmaaGreatDoorFC
import Derived.RangeFuncSeq
import Derived.ProofKit
import Derived.OpenShut
import Derived.ShutString
import Derived.ChangeOld
import Derived.Below
import Derived.SizedLaws
import Derived.Shelf.Strings.FieldsFuncGrows
import Derived.Lib.TrimUEq
import Derived.Lib.Join
import Derived.Shelf.SlSortCmp.NoneTotal
set_option linter.unusedSimpArgs false
set_option linter.unusedVariables false
set_option maxRecDepth 4000
namespace Sx
open Go
section
variable {P:Program} {Γ:Ty} {c:Cx P} {nt:Nt} {M:Mi} {st:St} {a:Act} {w:World}
theorem RelM.rebaseW (R:RelM c nt M st a w) (tm:Nat->Value) (dm:List Deferred) (nd:dm.Nodup)
 (mks:∀ d ∈ dm,∃ D,d = { target:=.collected D,args:=#[] }/\D<w.heap.size/\(∀ n,st.sto n≠.dead->¬ M.O n D)/\¬ M.S D/\w.heap[D]? = some (.deferred (some []))) :
 ∃ c' : Cx P,(∀ b,c'.W0 b->∃ n,st.sto n≠.dead/\M.O n b)/\c'.w0=w/\c'.tm=tm/\c'.dm=dm/\Mem c' M st.sto/\(∀ M sto,Mem c' M sto->Mem c M sto) /\
   ∀ D,D<w.heap.size->¬ M.S D->(∀ n,st.sto n≠.dead->¬ M.O n D)->∀ M' sto',Mem c' M' sto'->M'.h[D]? = w.heap[D]?/\¬ M'.S D/\∀ n,sto' n≠.dead->¬ M'.O n D:=by
 have hfr:∀ b,(∃ n,st.sto n≠.dead/\M.O n b)->c.w0.heap.size<=b\/c.W0 b:=fun b ⟨n,h1,h2⟩=>R.mem.frO n b h1 h2
 have hsz:c.w0.heap.size<=w.heap.size:=by rw [<-R.h];exact R.mem.size
 have hlay:Laid P w.heap fun b=>∃ n,st.sto n≠.dead/\M.O n b:=fun x hx g hg=>by
  obtain ⟨h1,h2,h3⟩:=c.lay x hx g hg;refine ⟨Nat.lt_of_lt_of_le h1 hsz,fun hf=>(hfr g hf).elim (fun h=>absurd h1 (Nat.not_lt.2 h)) h2,?_⟩;rw [<-R.h,R.mem.frame g h1 h2];exact h3
 refine ⟨⟨w,fun b=>∃ n,st.sto n≠.dead/\M.O n b,M.S,tm,hlay,dm,nd,fun d hd=>?_⟩,fun _ h=>h,rfl,rfl,rfl,?_,fun M' sto' H=>?_,fun D hD hS hn M' sto' H=>⟨?_,fun h=>?_,fun n hn' he=>?_⟩⟩
 ·obtain ⟨D,e,h1,h2,h3,h4⟩:=mks d hd;exact ⟨D,e,h1,fun ⟨n,g1,g2⟩=>h2 n g1 g2,h3,h4⟩
 ·refine ⟨by rw [R.h];exact Nat.le_refl _,fun b _ _=>by rw [R.h],R.mem.Slt,fun b hb=>.inl hb,R.mem.box,R.mem.dead,R.mem.injO,R.mem.sepO,fun n b h1 h2=>.inr ⟨n,h1,h2⟩,R.mem.non⟩
 ·refine ⟨Nat.le_trans hsz H.size,fun b hb hw=>?_,H.Slt,fun b hb=>?_,H.box,H.dead,H.injO,H.sepO,fun n b h1 h2=>?_,H.non⟩
  ·rw [H.frame b (Nat.lt_of_lt_of_le hb hsz) fun hf=>(hfr b hf).elim (fun h=>absurd hb (Nat.not_lt.2 h)) hw]
   show w.heap[b]? = _
   rw [<-R.h];exact R.mem.frame b hb hw
  ·rcases H.Sold b hb with h | h | h
   ·exact R.mem.Sold b h
   ·exact .inr (.inl (Nat.le_trans hsz h))
   ·exact .inr (hfr b h)
  ·rcases H.frO n b h1 h2 with h | h
   ·exact .inl (Nat.le_trans hsz h)
   ·exact hfr b h
 ·exact H.frame D hD fun ⟨n,g1,g2⟩=>hn n g1 g2
 ·rcases H.Sold D h with h | h | h
  ·exact hS h
  ·exact absurd hD (Nat.not_lt.2 h)
  ·obtain ⟨n,g1,g2⟩:=h;exact hn n g1 g2
 ·rcases H.frO n D hn' he with h | h
  ·exact absurd hD (Nat.not_lt.2 h)
  ·obtain ⟨n,g1,g2⟩:=h;exact hn n g1 g2
theorem RelM.rebase (R:RelM c nt M st a w) (tm:Nat->Value) (dm:List Deferred) (nd:dm.Nodup)
 (mks:∀ d ∈ dm,∃ D,d = { target:=.collected D,args:=#[] }/\D<w.heap.size/\(∀ n,st.sto n≠.dead->¬ M.O n D)/\¬ M.S D/\w.heap[D]? = some (.deferred (some []))) :
 ∃ c' : Cx P,c'.w0=w/\c'.tm=tm/\c'.dm=dm/\Mem c' M st.sto/\(∀ M sto,Mem c' M sto->Mem c M sto) /\
   ∀ D,D<w.heap.size->¬ M.S D->(∀ n,st.sto n≠.dead->¬ M.O n D)->∀ M' sto',Mem c' M' sto'->M'.h[D]? = w.heap[D]?/\¬ M'.S D/\∀ n,sto' n≠.dead->¬ M'.O n D :=
 let ⟨c',_,h⟩:=R.rebaseW tm dm nd mks
 ⟨c',h⟩
theorem RelM.below (R:RelM c nt M st a w) {w' : World} (hb:RowKit.Below w.heap.size w w'):∃ M',RelM c nt M' st a w'/\M'.S=M.S/\M'.ρ=M.ρ/\M'.X=M.X:=by
 have hsz:M.h.size=w.heap.size:=by rw [R.h]
 obtain ⟨H1,L1⟩:=R.mem.grow M.S w'.heap (by rw [hsz];exact hb.size) (fun b hb'=>by rw [R.h];exact hb.block b (by omega)) (fun _ h=>h) (fun _ h=>.inl h);exact ⟨{ M with h:=w'.heap },⟨rfl,R.nx,H1,fun t=>Rd.mono L1 _ _ (R.env t),R.sz,R.defs,hb.os.trans R.os,hb.tape.trans R.tape,hb.output.trans R.output⟩,rfl,rfl,rfl⟩
theorem RelM.marks (R:RelM c nt M st a w):∀ d ∈ c.dm,∃ D,d = { target:=.collected D,args:=#[] }/\D<c.w0.heap.size/\(∀ n,st.sto n≠.dead->¬ M.O n D)/\¬ M.S D/\w.heap[D]? = some (.deferred (some [])):=fun d hd=>by
 obtain ⟨D,e,d1,d2,d3,d4⟩:=c.mks d hd;refine ⟨D,e,d1,fun n hn he=>?_,fun hS=>?_,?_⟩
 ·rcases R.mem.frO n D hn he with h | h
  ·exact absurd d1 (Nat.not_lt.2 h)
  ·exact d2 h
 ·rcases R.mem.Sold D hS with h | h | h
  ·exact d3 h
  ·exact absurd d1 (Nat.not_lt.2 h)
  ·exact d2 h
 ·rw [<-R.h,R.mem.frame D d1 d2];exact d4
def restr (lv:List Nat) (st:St):St:=⟨fun t=>match memN t lv with | true=>st.env t | false=>.any,st.sto,st.nxt⟩
def rowA (K1:St->Prop):Ex->St->Prop
 | .normal,st=>K1 st| .exit _,_=>False| .ret,_=>False
def rowB (lv:List Nat) (K:Ex->St->Prop) (n:St->Prop):Ex->St->Prop
 | .normal,st=>n st| .exit i,st=>K (.exit i) (restr lv st)| .ret,st=>K .ret (restr lv st)
theorem RelM.back {c3:Cx P} {lv:List Nat} {M3:Mi} {st st3:St} {a3:Act} {W W3:World} (R:RelM c nt M st a W) (R3:RelM c3 ⟨nt.n,lv⟩ M3 st3 a3 W3) (hm:Mem c M3 st3.sto) (htm:∀ t,c3.tm t=a.tmps.getD t undef)
 (h1:W3.os=W.os) (h2:W3.tape=W.tape) (h3:W3.output=W.output):RelM c nt M3 (restr lv st3) a W3:=by
 refine ⟨R3.h,R3.nx,hm,fun t=>?_,R.sz,R.defs,h1.trans R.os,h2.trans R.tape,h3.trans R.output⟩;unfold restr;dsimp only;split
 ·rename_i ht;rw [<-htm t,<-R3.sz.2 t ht];exact R3.env t
 ·simp [Rd]
theorem restr_mk {lv:List Nat} {sl:List (Nat × D)} {bx:List (Nat × Box)} {nxt:Nat} (h:∀ t,memN t lv=false->lkE sl t = .any):restr lv (mkSt sl bx nxt)=mkSt sl bx nxt:=by
 unfold restr mkSt
 congr 1
 funext t
 split
 ·rfl
 ·rename_i ht;exact (h t ht).symm
theorem RelM.turned {c1:Cx P} {L:Nat} {lo:Loop} (R:RelM c1 nt M st a w) (hm:Mem c M st.sto) (o1:w.os=c.w0.os) (o2:w.tape=c.w0.tape) (o3:w.output=c.w0.output)
 (hl:w.heap[L]? = some (.loop lo)) (o' : Obj) (hL:c.w0.heap.size<=L) (hS:¬ M.S L) (hb:∀ n,st.sto n≠.dead->¬ M.O n L) :
 ∃ c' : Cx P,c'.w0=w.putObj L o'/\c'.tm=c1.tm/\c'.dm=c1.dm/\RelM c' nt { M with h:=(w.putObj L o').heap } st a (w.putObj L o')/\(∀ M sto,Mem c' M sto->Mem c M sto) /\
   ∀ D,D<(w.putObj L o').heap.size->¬ M.S D->(∀ n,st.sto n≠.dead->¬ M.O n D)->∀ M' sto',Mem c' M' sto'->M'.h[D]? = (w.putObj L o').heap[D]?/\¬ M'.S D/\∀ n,sto' n≠.dead->¬ M'.O n D:=by
 have R1:RelM ({ c with tm:=c1.tm,dm:=[],nd:=List.nodup_nil,mks:=nofun }:Cx P) nt M st { a with defers:=[] } w :=
  ⟨R.h,R.nx,⟨hm.size,hm.frame,hm.Slt,hm.Sold,hm.box,hm.dead,hm.injO,hm.sepO,hm.frO,hm.non⟩,R.env,R.sz,rfl,o1,o2,o3⟩
 have R2:=R1.other (o':=o') hl hL hS hb
 have hsz:(w.putObj L o').heap.size=w.heap.size:=by simp [World.putObj]
 have hcs:c1.w0.heap.size<=w.heap.size:=by rw [<-R.h];exact R.mem.size
 obtain ⟨c',e1,e2,e3,e4,e5,e6⟩:=R2.rebase c1.tm c1.dm c1.nd (fun d hd=>by
  obtain ⟨D,e,d1,d2,d3,d4⟩:=R.marks d hd;refine ⟨D,e,by rw [hsz];exact Nat.lt_of_lt_of_le d1 hcs,d2,d3,?_⟩;rw [World.putObj_heap_other (fun e=>?_)];exact d4
  subst e;rw [hl] at d4;cases d4)
 refine ⟨c',e1,e2,e3,⟨R2.h,R2.nx,e4,R2.env,⟨R.sz.1,fun t ht=>by rw [e2];exact R.sz.2 t ht⟩,by rw [e3];exact R.defs,by rw [e1],by rw [e1],by rw [e1]⟩,fun M sto h=>?_,e6⟩;have h:=e5 M sto h;exact ⟨h.size,h.frame,h.Slt,h.Sold,h.box,h.dead,h.injO,h.sepO,h.frO,h.non⟩
structure Aside (M:Mi) (sto:Nat->Box) (L D:Nat):Prop where
 sL:¬ M.S L
 bL:∀ n,sto n≠.dead->¬ M.O n L
 sD:¬ M.S D
 bD:∀ n,sto n≠.dead->¬ M.O n D
end
end Sx
namespace Sx
open Go
abbrev i64 (n:Int):D:=.int .i64 n
abbrev u64 (n:Int):D:=.int .u64 n
theorem wi (n:Int) (h : -9223372036854775808<=n/\n<=9223372036854775807):IntKind.i64.wrap n=n:=by
 simp only [IntKind.wrap,IntKind.signed,IntKind.bits];simp only [Bool.true_and,Bool.false_and,decide_eq_true_eq,show (2:Int) ^ 64=18446744073709551616 from rfl,show (2:Int) ^ (64 - 1)=9223372036854775808 from rfl]
 split<;>omega
theorem wu (n:Int) (h:0<=n/\n<=18446744073709551615):IntKind.u64.wrap n=n:=by
 simp only [IntKind.wrap,IntKind.signed,IntKind.bits];simp only [Bool.false_and,bft,if_false,show (2:Int) ^ 64=18446744073709551616 from rfl];omega
theorem wu_in (n:Int):0<=IntKind.u64.wrap n/\IntKind.u64.wrap n<=18446744073709551615:=by
 simp only [IntKind.wrap,IntKind.signed,IntKind.bits];simp only [Bool.false_and,bft,if_false,show (2:Int) ^ 64=18446744073709551616 from rfl];omega
def ints (l:List Int):D:=.tab 1 l.length fun i=>[.int .i64 (l.getD i 0)]
theorem forceL_of {l:List D} {K:List D->Prop} (h:K l):forceL l K:=by rw [forceL_eq];exact h
theorem adL_imm:∀ {l:List D} {s:Nat->Box} {k:Nat} {K:List D->(Nat->Box)->Nat->Prop},immL l=true->K l s k->adL l s k K
 | [],s,k,K,_,hk=>hk
 | d :: l,s,k,K,h,hk=>by
   simp only [immL] at h;split at h
   ·rename_i hd;have:=adL_imm (K:=fun l s k=>K (d :: l) s k) h hk
    cases d<;>first
     | (simp [D.immB] at hd;done)
     | exact this
   ·cases h
theorem lesL_imm {sto:Nat->Box} {n:Nat}:∀ {l:List D} {us:List Nat} {K:List D->List Nat->Prop},immL l=true->K l us->lesL (leD sto (n+1)) l us K
 | [],us,K,_,hk=>hk
 | d :: l,us,K,h,hk=>by
   simp only [immL] at h;split at h
   ·rename_i hd;have:=lesL_imm (sto:=sto) (n:=n) (K:=fun l us=>K (d :: l) us) h hk
    cases d<;>first
     | (simp [D.immB] at hd;done)
     | exact this
   ·cases h
theorem Wr.i64 {z:Int} {K:Int->Prop} (h : -9223372036854775808<=z/\z<=9223372036854775807) (k:Step (K z)):Wr .i64 z K:=⟨by rw [wi _ h];exact k.out⟩
theorem Wr.u64 {z:Int} {K:Int->Prop} (h:0<=z/\z<=18446744073709551615) (k:Step (K z)):Wr .u64 z K:=⟨by rw [wu _ h];exact k.out⟩
theorem w8 (n:Int) (h:0<=n/\n<=255):IntKind.u8.wrap n=n:=by
 simp only [IntKind.wrap,IntKind.signed,IntKind.bits,Bool.false_and];simp;omega
theorem Wr.u8 {z:Int} {K:Int->Prop} (h:0<=z/\z<=255) (k:Step (K z)):Wr .u8 z K:=⟨by rw [w8 _ h];exact k.out⟩
theorem w32 (n:Int) (h : -2147483648<=n/\n<=2147483647):IntKind.i32.wrap n=n:=by
 simp only [IntKind.wrap,IntKind.signed,IntKind.bits,Bool.true_and,decide_eq_true_eq,show (2:Int) ^ 32=4294967296 from rfl,show (2:Int) ^ (32 - 1)=2147483648 from rfl]
 split<;>omega
theorem Wr.i32 {z:Int} {K:Int->Prop} (h : -2147483648<=z/\z<=2147483647) (k:Step (K z)):Wr .i32 z K:=⟨by rw [w32 _ h];exact k.out⟩
theorem same_rfl {A:Type} {n:Nat} {f:Nat->A}:n=n/\∀ i,i<n->f i=f i:=⟨rfl,fun _ _=>rfl⟩
theorem noSh_bool (b:Bool):noSh (.bool b):=trivial
theorem noSh_int (k:IntKind) (n:Int):noSh (.int k n):=trivial
theorem noSh_str (s:List UInt8):noSh (.str s):=trivial
theorem Vc.om {p k:Prop} (h:p) (hk:Step k):Vc p k:=⟨h,hk.out⟩
end Sx
namespace Sx
open Go
def Rdr (P:Program) (t:TypeId) (X:Type) (toD:X->List D) (ok:X->Prop):Prop :=
 ∀ {H:Type} (enc:TypeId × Value->H) (w:World) (base:Nat) (spare:Nat->Bool) (held:Bool) (fuel:Nat) (cs:List Value) (x:DataW H × List MemPlace),
   DataW.trod enc P w base spare held fuel t cs=some x->(∀ n ∈ x.1.weights P t,n<=140737488351232)->∃ y,ok y/\RdL (MiS (fun b=>b<w.heap.size) w.heap) true (toD y) cs
theorem mem_weightsAll {H:Type} {P:Program} {e:TypeId} {n:Nat}:∀ {l:List (DataW H)} {d:DataW H},d ∈ l->n ∈ d.weights P e->n ∈ DataW.weightsAll P e l
 | [],d,h,_=>by simp at h
 | x :: l,d,h,hn=>by
   simp only [DataW.weightsAll,List.mem_append]
   rcases List.mem_cons.1 h with rfl | h
   ·exact .inl hn
   ·exact .inr (mem_weightsAll h hn)
theorem mem_weightsEach {H:Type} {P:Program} {n:Nat}:∀ {ts:List TypeId} {ds:List (DataW H)} {i:Nat} {t:TypeId} {d:DataW H},ts[i]? = some t->ds[i]? = some d->n ∈ d.weights P t->n ∈ DataW.weightsEach P ts ds
 | [],_,i,_,_,h,_,_=>by simp at h
 | _ :: _,[],i,_,_,_,h,_=>by simp at h
 | t :: ts,d :: ds,0,_,_,h1,h2,hn=>by
   simp at h1 h2;subst h1;subst h2;simp only [DataW.weightsEach,List.mem_append];exact .inl hn
 | t :: ts,d :: ds,i+1,_,_,h1,h2,hn=>by
   simp only [DataW.weightsEach,List.mem_append];exact .inr (mem_weightsEach (i:=i) (by simpa using h1) (by simpa using h2) hn)
theorem sized_get {H:Type} {P:Program} {ts:List TypeId} {ds:List (DataW H)} (h:(DataW.weightsEach P ts ds).all (·<=reachBytes)=true) {i:Nat} {t:TypeId} {d:DataW H} (ht:ts[i]? = some t) (hd:ds[i]? = some d):∀ n ∈ d.weights P t,n<=140737488351232:=fun n hn=>by
 have:=List.all_eq_true.1 h n (mem_weightsEach ht hd hn);have e:reachBytes=140737488351232:=rfl;rw [e] at this;simpa using this
section
variable {P:Program} {t:TypeId}
theorem rdInt {k:IntKind} (ht:P.underlying t=some (.int k)):Rdr P t Int (fun n=>[.int k n]) (fun n=>k.min<=n/\n<=k.max):=by
 intro H enc w base spare held fuel cs x h hwt;obtain ⟨n,rfl,_,hw⟩:=DataW.trod_int ht h;simp only [Lit.wf,bat,decide_eq_true_eq] at hw;exact ⟨n,hw,by simp [RdL,Rd,Value.oneCell']⟩
theorem mapM_get' {α β:Type} {f:α->Option β}:∀ {l:List α} {m:List β},l.mapM f=some m->m.length=l.length/\∀ (i:Nat) (x:α),l[i]? = some x->f x=m[i]?
 | [],m,h=>by simp at h;subst h;simp
 | a :: l,m,h=>by
   simp only [List.mapM_cons,Option.bind_eq_bind,Option.pure_def] at h
   cases ha:f a with
   | none=>simp [ha] at h
   | some b =>
     cases hl:l.mapM f with
     | none=>simp [ha,hl] at h
     | some r =>
       simp only [ha,hl,Option.bind_some,Option.some.injEq] at h;subst h;obtain ⟨h1,h2⟩:=mapM_get' hl;refine ⟨by simp [h1],fun i x hx=>?_⟩
       cases i with
       | zero=>simp only [List.getElem?_cons_zero,Option.some.injEq] at hx;subst hx;simpa using ha
       | succ i=>simpa using h2 i x (by simpa using hx)
theorem cells?_of {w:World} {base n:Nat} {a:Addr} {vs:List Value} (h:w.cells? base a n=some vs):vs.length=n/\∀ i,i<n->w.cell? (a.add i)=vs[i]?:=by
 unfold World.cells? at h;split at h
 ·obtain ⟨h1,h2⟩:=mapM_get' h;refine ⟨by simpa using h1,fun i hi=>h2 i i (by simp [hi])⟩
 ·cases h
theorem exL {X:Type} [Inhabited X] {p:Nat->X->Prop}:∀ (n:Nat),(∀ i,i<n->∃ y,p i y)->∃ l:List X,l.length=n/\∀ i,i<n->p i (l.getD i default)
 | 0,_=>⟨[],rfl,fun i hi=>absurd hi (Nat.not_lt_zero i)⟩
 | n+1,h=>by
   obtain ⟨l,hl,hp⟩:=exL n fun i hi=>h i (Nat.lt_succ_of_lt hi)
   obtain ⟨y,hy⟩:=h n (Nat.lt_succ_self n);refine ⟨l ++ [y],by simp [hl],fun i hi=>?_⟩;by_cases e:i=n
   ·subst e;simpa [gDe,List.getElem?_append,hl] using hy
   ·have hi' : i<n:=by omega
    have:=hp i hi';simpa [gDe,List.getElem?_append,hl,hi'] using this
theorem rdSlice {e:TypeId} {X:Type} [Inhabited X] {toD:X->List D} {ok:X->Prop} {sz bz:Nat} (ht:P.underlying t=some (.slice e)) (hs:P.cellsOf e=sz) (h0:0<sz) (hb:P.bytesOf e=bz) (R:Rdr P e X toD ok) :
 Rdr P t (List X) (fun l=>[.tab sz l.length fun i=>toD (l.getD i default)]) (fun l=>(∀ x ∈ l,ok x)/\l.length*bz<=140737488351232):=by
 intro H enc w base spare held fuel cs x h hwt
 rcases DataW.trod_slice ht h with ⟨rfl,_⟩ | ⟨a,len,cap,elems,rest,n,_,rfl,rfl,_,hl,hm,hlen,hel,_⟩
 ·refine ⟨[],⟨by simp,by simp⟩,?_⟩;simp only [RdL,List.length_nil];exact ⟨rfl,Rd.nil_tab (by simp [Rd]) _ _,trivial⟩
 ·simp only [DataW.weights,ht,List.mem_cons,List.mem_append,List.length_map,hb] at hwt
  have key:∀ i,i<len->∃ y,ok y/\∃ vs:List Value,vs.length=sz/\(∀ j,j<sz->w.cell? (a.add (i*sz+j))=vs[j]?)/\RdL (MiS (fun b=>b<w.heap.size) w.heap) true (toD y) vs:=by
   intro i hi;have he:=hel i hi;rw [hs] at he
   have hi' : i<elems.length:=by omega
   rw [List.getElem?_eq_getElem hi'] at he
   cases hc:w.cells? base (a.add (i*sz)) sz with
   | none=>simp [hc] at he
   | some vs =>
     simp only [hc,Option.bind_some] at he
     obtain ⟨y,hy,hr⟩:=R enc w base spare held n vs _ he fun k hk=>hwt k (.inr (.inl (mem_weightsAll (List.mem_map.2 ⟨_,List.getElem_mem hi',rfl⟩) hk)))
     obtain ⟨c1,c2⟩:=cells?_of hc;refine ⟨y,hy,vs,c1,fun j hj=>?_,hr⟩;rw [<-c2 j hj,Addr.add_add]
  obtain ⟨l,hll,hp⟩:=exL len key;refine ⟨l,⟨fun x hx=>?_,?_⟩,?_⟩
  ·obtain ⟨i,hi,rfl⟩:=List.mem_iff_getElem.1 hx;have:=(hp i (by omega)).1;simpa [gDe,hi] using this
  ·refine Nat.le_trans (Nat.mul_le_mul_right _ ?_) (hwt _ (.inl rfl));omega
  ·simp only [RdL,Rd];refine ⟨rfl,⟨some a,cap,by rw [hll],by omega,fun i hi=>?_⟩,trivial⟩;obtain ⟨_,vs,hv1,hv2,hv3⟩:=hp i (by omega);obtain ⟨b,off,spot⟩:=a;have hv0:vs[0]? = some (vs[0]'(by omega)):=List.getElem?_eq_getElem (by omega)
   have hspot:spot=none:=by
    obtain ⟨_,us,hu1,hu2,_⟩:=hp 0 (by omega);have:=hu2 0 h0;rw [List.getElem?_eq_getElem (by omega:0<us.length)] at this;simpa [Addr.add] using World.cell?_spot this
   subst hspot
   have hat:∀ j,j<sz->cellAt w.heap b (off+i*sz+j)=vs[j]?:=fun j hj=>by
    rw [<-cell?_at,<-hv2 j hj,Go.WideShapes.add_plain,Nat.add_assoc]
   refine ⟨b,off,rfl,?_,vs,hv1,fun j hj=>hat j (by omega),hv3⟩;have h1:=hat 0 h0;rw [hv0] at h1;unfold cellAt at h1;split at h1
   ·rename_i hx;exact get?_lt hx
   ·cases h1
def fieldsOf (P:Program) (t:TypeId):List (Nat × Nat × TypeId) :=
 match P.underlying t with
 | some (.struct fs)=>fs.toList.map fun f=>(f.offset,P.cellsOf f.type,f.type)
 | _=>[]
theorem Rdr.val1 {X:Type} {toD:X->List D} {ok:X->Prop} (R:Rdr P t X toD ok) {H:Type} {enc:TypeId × Value->H} {w:World} {base:Nat} {spare:Nat->Bool} {held:Bool} {v:Value} {d:DataW H} {ps:List MemPlace}
 (hc:v.cells = #[v]) (d' : X->D) (hd:∀ y,toD y = [d' y]) (h:DataW.Trod enc P w base spare held t v d ps) (hwt:∀ n ∈ d.weights P t,n<=140737488351232):∃ y,ok y/\Rd (MiS (fun b=>b<w.heap.size) w.heap) true (d' y) v:=by
 obtain ⟨fuel,hf⟩:=h;rw [hc] at hf;obtain ⟨y,hy,hr⟩:=R enc w base spare held fuel _ _ hf hwt;rw [hd] at hr;simp only [RdL] at hr;exact ⟨y,hy,hr.2.1⟩
theorem Ct.walk {f:FuncId} {args:List D} (h:Ct P f args fun r _=>r = .bool true\/r = .lit true) {w:World} {vs:Array Value} (hr:RdT (MiS (fun b=>b<w.heap.size) w.heap) true args vs.toList) (hl:Laid P w.heap fun _=>False) :
 Calls P f vs w fun e w'=>e = .returned (.bool true)/\Go.RowKit.Below w.heap.size w w':=by
 have:=h.ok w (fun b=>b<w.heap.size) vs [] (fun _ hb=>hb) (OdT.of_rd _ _ hr) List.nodup_nil ⟨by simp,fun x hx g hg=>⟨(hl x hx g hg).1,by simp,(hl x hx g hg).2.2⟩⟩;refine this.mono ?_
 rintro e w' ⟨v,r,outs,S',F',rfl,hR,hB,hO⟩
 refine ⟨?_,hB.os,hB.tape,hB.output,hB.size,fun k hk=>hB.old k hk (by simp)⟩;simp only [OdT] at hO;obtain ⟨F1,F2,_,hv,_⟩:=hO
 rcases hR with rfl | rfl<;>simp [Od,Rd] at hv<;>rw [hv.1]
theorem rdtN {M:Mi} {im:Bool}:RdT M im [] []:=by simp [RdT]
theorem rdtC {M:Mi} {im:Bool} {d:D} {v:Value} {l:List D} {vs:List Value} (h:Rd M im d v) (t:RdT M im l vs):RdT M im (d :: l) (v :: vs):=by simp only [RdT];exact ⟨h,t⟩
end
theorem S0 {p:Prop} (h:p):Step p:=⟨h⟩
theorem Vo {p k:Prop} (hk:Step k) (h:p:=by first | omega | with_reducible rfl | with_reducible exact same_rfl):Vc p k:=⟨h,hk.out⟩
theorem T0 {p:Prop} (h:p:=by with_reducible trivial):p:=h
theorem T1 {p:Prop} (h:p:=by with_reducible exact same_rfl):p:=h
theorem T2 {p q:Prop} (a:Step p) (b:Step q):Two p q:=⟨a.out,b.out⟩
theorem K0 {P:Program} {g:FuncId} {args:List D} {st:St} {K:D->St->Prop}
 (h:Step (lesL (leD st.sto 6) args [] fun ds ls=>Met P g ds fun r _=>lentOK ls r (st.on fun e_ s_ k_=>adD r s_ k_ fun d s n=>K d ⟨e_,s,n⟩))):CallOK P g args st K:=.of_ct h.out
theorem K1 {P:Program} {g:FuncId} {args:List D} {st:St} {K:D->St->Prop}
 (h:Step (lesL (leD st.sto 6) args [] fun ds ls=>Met P g ds fun r _=>lentOK ls r (st.on fun e_ s_ k_=>adD r s_ k_ fun d s n=>K d ⟨e_,s,n⟩))):CallQ P g args st K:=.of_ct h.out
theorem Vm {p k:Prop} (h:p) (hk:Step k):Vc p k:=⟨h,hk.out⟩
theorem W6 {z:Int} {K:Int->Prop} (k:Step (K z)) (h : -9223372036854775808<=z/\z<=9223372036854775807:=by omega):Wr .i64 z K:=.i64 h k
theorem W8 {z:Int} {K:Int->Prop} (k:Step (K z)) (h:0<=z/\z<=255:=by omega):Wr .u8 z K:=.u8 h k
theorem W3 {z:Int} {K:Int->Prop} (k:Step (K z)) (h : -2147483648<=z/\z<=2147483647:=by omega):Wr .i32 z K:=.i32 h k
theorem B1 {p:Prop} [Decidable p] {A B:Prop} (k:Step A) (h:p:=by omega):Br (decide p=true) A (decide p=false) B:=.dT h k
theorem B0 {p:Prop} [Decidable p] {A B:Prop} (k:Step B) (h:¬p:=by omega):Br (decide p=true) A (decide p=false) B:=.dF h k
theorem M0 {P:Program} {g:FuncId} {ds:List D} {K:D->List D->Prop} {r0:D} {o0:List D} (H:Ct P g ds fun r outs=>r=r0/\outs=o0) (k:Step (K r0 o0)):Met P g ds K:=Met.by H (by rintro q outs ⟨rfl,rfl⟩;exact k)
theorem Bm {a p b q:Prop} (l:a->Step p) (r:b->Step q):Br a p b q:=⟨fun h=>(l h).out,fun h=>(r h).out⟩
end Sx
namespace Sx
open Go
abbrev u8 (n:Int):D:=.int .u8 n
abbrev Str:=List UInt8
def strs (l:List Str):D:=.tab 1 l.length fun i=>[.str (l.getD i [])]
def strsO (e:Nat) (l:List Str):D:=.ftab e 1 l.length fun i=>[.str (l.getD i [])]
def sameD:D->D->Bool
 | .int k _,.int k' _=>decide (k=k')| .str _,.str _=>true| .bool _,.bool _=>true| .val _,.val _=>true| _,_=>false
def sameL:List D->List D->Bool
 | [],[]=>true| d :: l,e :: m=>sameD d e && sameL l m| _,_=>false
theorem ite_same {c:Prop} [Decidable c]:∀ {d e:D},sameD d e=true->D.ite c d e=if c then d else e:=by
 intro d e h;unfold sameD at h;split at h
 ·rename_i k x k' y
  have h:k=k':=by simpa using h
  subst h;simp only [D.ite,D.ite1,decide_true]
  split<;>rfl
 ·simp only [D.ite,D.ite1];split<;>rfl
 ·simp only [D.ite,D.ite1];split<;>rfl
 ·simp only [D.ite,D.ite1];split<;>rfl
 ·cases h
theorem sameL_len:∀ {l m:List D},sameL l m=true->l.length=m.length
 | [],[],_=>rfl
 | _ :: l,_ :: m,h=>by simp only [sameL,bat] at h;simp [sameL_len h.2]
 | [],_ :: _,h=>by simp [sameL] at h
 | _ :: _,[],h=>by simp [sameL] at h
theorem iteL_same {c:Prop} [Decidable c] {l m:List D} (h:sameL l m=true):iteL c l m=if c then l else m:=by
 unfold iteL;rw [sameL_len h,Nat.beq_refl];simp only
 have key:∀ {l m:List D},sameL l m=true->zipI (D.ite c) l m=if c then l else m:=by
  intro l
  induction l with
  | nil=>intro m h;cases m with
    | nil=>split<;>rfl
    | cons=>simp [sameL] at h
  | cons d l ih=>intro m h;cases m with
    | nil=>simp [sameL] at h
    | cons e m =>
      simp only [sameL,bat] at h;simp only [zipI,ite_same h.1,ih h.2]
      split<;>rfl
 exact key h
theorem getD_app {α:Type} (a b:List α) (j:Nat) (z:α):(a ++ b).getD j z=if j<a.length then a.getD j z else b.getD (j - a.length) z:=by
 simp only [gDe,List.getElem?_append]
 split<;>rfl
theorem app_one {α:Type} (F:α->List D) (z:α) (hF:∀ x y,sameL (F x) (F y)=true) (l:List α) (x:α) {m:List D} (hm:m=F x) :
 l.length+1=(l ++ [x]).length/\∀ i,i<(l ++ [x]).length->iteL (i<l.length) (F (l.getD i z)) (selC [m] (i - l.length))=F ((l ++ [x]).getD i z):=by
 refine ⟨by simp,fun i hi=>?_⟩;subst hm;simp only [selC];rw [iteL_same (hF _ _)];simp only [lap,List.length_cons,List.length_nil] at hi;by_cases h:i<l.length
 ·rw [if_pos h];simp [List.getD,List.getElem?_append,h]
 ·rw [if_neg h,show i=l.length by omega];simp [List.getD]
theorem app_all {α:Type} (F:α->List D) (z:α) (hF:∀ x y,sameL (F x) (F y)=true) (l m:List α) :
 l.length+m.length=(l ++ m).length/\∀ i,i<(l ++ m).length->iteL (i<l.length) (F (l.getD i z)) (F (m.getD (i - l.length) z))=F ((l ++ m).getD i z):=by
 refine ⟨by simp,fun i hi=>?_⟩;rw [iteL_same (hF _ _)];by_cases h:i<l.length
 ·rw [if_pos h];simp [List.getD,List.getElem?_append,h]
 ·rw [if_neg h];simp [List.getD,List.getElem?_append,h]
theorem set_one {α:Type} (F:α->List D) (z:α) (hF:∀ x y,sameL (F x) (F y)=true) (l:List α) (k:Nat) (x:α) {m:List D} (hm:m=F x) :
 l.length=(l.set k x).length/\∀ i,i<(l.set k x).length->iteL (i=k) m (F (l.getD i z))=F ((l.set k x).getD i z):=by
 refine ⟨by simp,fun i hi=>?_⟩;subst hm;rw [iteL_same (hF _ _)];simp only [List.length_set] at hi;by_cases h:i=k
 ·subst h;rw [if_pos rfl];simp [List.getD,hi]
 ·rw [if_neg h];simp [List.getD,List.getElem?_set,Ne.symm h]
theorem byte_app (a:Str) (x:UInt8) {m:List D} (hm:m = [.int .u8 x.toNat]):a.length+1=(a ++ [x]).length/\∀ i,i<(a ++ [x]).length->iteL (i<a.length) (bytesF a i) (selC [m] (i - a.length))=bytesF (a ++ [x]) i :=
 app_one (fun x:UInt8=>[.int .u8 x.toNat]) 0 (fun _ _=>rfl) a x hm
theorem bytes_app (a b:Str):a.length+b.length=(a ++ b).length/\∀ i,i<(a ++ b).length->iteL (i<a.length) (bytesF a i) (bytesF b (i - a.length))=bytesF (a ++ b) i :=
 app_all (fun x:UInt8=>[.int .u8 x.toNat]) 0 (fun _ _=>rfl) a b
theorem str_app (a:List Str) (x:Str) {m:List D} (hm:m = [.str x]):a.length+1=(a ++ [x]).length/\∀ i,i<(a ++ [x]).length->iteL (i<a.length) [.str (a.getD i [])] (selC [m] (i - a.length)) = [.str ((a ++ [x]).getD i [])] :=
 app_one (fun x:Str=>[.str x]) [] (fun _ _=>rfl) a x hm
theorem selC_get {α:Type} (F:α->List D) (z:α) (hF:∀ x y,sameL (F x) (F y)=true):∀ (l:List α) (i:Nat),i<l.length->selC (l.map F) i=F (l.getD i z)
 | [],i,h=>absurd h (Nat.not_lt_zero i)| [x],0,_=>rfl
 | [x],i+1,h=>by simp at h
 | x :: y :: l,i,h=>by
   show iteL (i=0) (F x) (selC ((y :: l).map F) (i - 1))=_
   cases i with
   | zero =>
     rw [selC_get F z hF (y :: l) 0 (by simp),iteL_same (hF _ _),if_pos rfl];rfl
   | succ i =>
     rw [Nat.add_sub_cancel,selC_get F z hF (y :: l) i (by simpa using h),iteL_same (hF _ _),if_neg (Nat.succ_ne_zero i)];rfl
theorem selC_str (l:List Str) (i:Nat) (h:i<l.length):selC (l.map fun s=>[D.str s]) i = [.str (l.getD i [])]:=selC_get (fun s:Str=>[.str s]) [] (fun _ _=>rfl) l i h
theorem Ct.lit2 {P:Program} {g:FuncId} {R:D->List D->Prop} {b:D} (l:List Str) (hb:ioEq [b] [b]=true/\wkD b b false) (H:Ct P g [b,strs l] R):Ct P g [b,.tab 1 l.length fun i=>selC (l.map fun s=>[D.str s]) i] R :=
 H.arg ⟨by have:=hb.1;cases b<;>first | rfl | exact this,hb.2,⟨rfl,fun i hi=>selC_str l i hi⟩,trivial⟩
theorem drop_step {α:Type} (l:List α) (z:α) (i:Nat) (h:i<l.length):l.drop i=l.getD i z :: l.drop (i+1):=by
 rw [List.drop_eq_getElem_cons h,gDe,List.getElem?_eq_getElem h];rfl
theorem take_step {α:Type} (l:List α) (z:α) (i:Nat) (h:i<l.length):l.take (i+1)=l.take i ++ [l.getD i z]:=by
 rw [List.take_add_one,List.getElem?_eq_getElem h,gDe,List.getElem?_eq_getElem h];rfl
theorem filter_step {α:Type} (p:α->Bool) (l:List α) (z:α) (i:Nat) (h:i<l.length):(l.take (i+1)).filter p=(l.take i).filter p ++ if p (l.getD i z) then [l.getD i z] else []:=by
 rw [take_step l z i h,List.filter_append,List.filter_cons,List.filter_nil]
theorem getD_in {α:Type} {l:List α} {i:Nat} {z:α} (h:i<l.length):l.getD i z ∈ l:=by
 rw [gDe,List.getElem?_eq_getElem h];exact List.getElem_mem h
def toksF:Str->Str->List Str
 | part,[]=>if part = [] then [] else [part]
 | part,x :: l=>if x=32 then (if part = [] then toksF [] l else part :: toksF [] l) else toksF (part ++ [x]) l
def toks (s:Str):List Str:=toksF [] s
theorem toksF_skip:∀ (a b part:Str),(∀ x ∈ a,x≠32)->toksF part (a ++ b)=toksF (part ++ a) b
 | [],b,part,_=>by simp
 | x :: a,b,part,h=>by
   have hx:=h x (by simp);rw [List.cons_append,toksF,if_neg hx,toksF_skip a b (part ++ [x]) (fun y hy=>h y (by simp [hy]))];simp
theorem getD_data (s:ByteArray) (pos:Nat) (h:pos<s.data.toList.length):s.data.toList.getD pos 0=s.data.toList[pos]:=by
 rw [gDe,List.getElem?_eq_getElem h];rfl
theorem rune_rest (n b0 b1 b2 b3:Nat) :
 (1<(Lib.decodeN n b0 b1 b2 b3).2->b1 / 64=2)/\(2<(Lib.decodeN n b0 b1 b2 b3).2->b2 / 64=2)/\(3<(Lib.decodeN n b0 b1 b2 b3).2->b3 / 64=2)/\(Lib.decodeN n b0 b1 b2 b3).2<5:=by
 unfold Lib.decodeN
 (repeat' split)<;>refine ⟨?_,?_,?_,?_⟩<;>simp only<;>omega
theorem decode_space (s:ByteArray) (pos:Nat) (h:pos<s.size) :
 (s.data.toList.getD pos 0=32/\Utf8.decode s pos=(32,1)) \/
 ((Utf8.decode s pos).1≠32/\1<=(Utf8.decode s pos).2/\pos+(Utf8.decode s pos).2<=s.size/\∀ j,j<(Utf8.decode s pos).2->s.data.toList.getD (pos+j) 0≠32):=by
 have hsz:s.data.toList.length=s.size:=rfl;have hd:Utf8.decode s pos=Lib.decodeN (s.data.toList.length - pos) (s.data.toList.getD pos 0).toNat (s.data.toList.getD (pos+1) 0).toNat (s.data.toList.getD (pos+2) 0).toNat (s.data.toList.getD (pos+3) 0).toNat:=Lib.decode_N s pos;have hw:=Lib.decodeN_ge1 (s.data.toList.length - pos) (s.data.toList.getD pos 0).toNat (s.data.toList.getD (pos+1) 0).toNat (s.data.toList.getD (pos+2) 0).toNat (s.data.toList.getD (pos+3) 0).toNat;have hl:=Lib.decodeN_le_n' (s.data.toList.length - pos) (s.data.toList.getD pos 0).toNat (s.data.toList.getD (pos+1) 0).toNat (s.data.toList.getD (pos+2) 0).toNat (s.data.toList.getD (pos+3) 0).toNat (by omega);obtain ⟨c1,c2,c3,c4⟩:=rune_rest (s.data.toList.length - pos) (s.data.toList.getD pos 0).toNat (s.data.toList.getD (pos+1) 0).toNat (s.data.toList.getD (pos+2) 0).toNat (s.data.toList.getD (pos+3) 0).toNat
 have key:∀ b:UInt8,b.toNat / 64=2->b≠32:=fun b hb e=>by subst e;revert hb;decide
 have asc:∀ n b0 b1 b2 b3,128<=b0->(Lib.decodeN n b0 b1 b2 b3).1≠32:=fun n b0 b1 b2 b3 h0=>by
  unfold Lib.decodeN
  repeat' split
  all_goals (simp only;omega)
 rw [<-hd] at hw hl c1 c2 c3 c4;by_cases hb:s.data.toList.getD pos 0=32
 ·refine .inl ⟨hb,?_⟩;rw [hd,hb,Lib.decodeN_ascii _ _ _ _ _ (by decide)];rfl
 ·right
  refine ⟨?_,hw,by omega,fun j hj=>?_⟩
  ·rcases Nat.lt_or_ge (s.data.toList.getD pos 0).toNat 128 with h1 | h1
   ·rw [hd,Lib.decodeN_ascii _ _ _ _ _ h1];intro e;exact hb (UInt8.toNat_inj.1 (by simpa using e))
   ·rw [hd];exact asc _ _ _ _ _ h1
  ·match j with
   | 0=>simpa using hb| 1=>exact key _ (c1 (by omega))| 2=>exact key _ (c2 (by omega))| 3=>exact key _ (c3 (by omega))| j+4=>omega
theorem extract_list (s:ByteArray) (a b:Nat):(s.extract a b).data.toList=(s.data.toList.take b).drop a:=by
 rw [ByteArray.data_extract,Array.toList_extract];simp [List.extract,List.drop_take]
theorem spans_toks (s:ByteArray):∀ (f pos:Nat) (st:Option Nat) (acc:List (Nat × Nat)),s.size<=pos+f->pos<=s.size->(∀ a,st=some a->a<pos) ->
 (Lib.closeSpans s (Lib.spansFromP (fun x=>decide (x=32)) s f pos st acc)).map (fun x=>(s.extract x.1 x.2).data.toList) =
   acc.map (fun x=>(s.extract x.1 x.2).data.toList) ++ toksF (match st with | none=>[] | some a=>(s.data.toList.take pos).drop a) (s.data.toList.drop pos):=by
 have hsz:s.data.toList.length=s.size:=rfl
 have ending:∀ (pos:Nat) (st:Option Nat) (acc:List (Nat × Nat)),pos=s.size->(∀ a,st=some a->a<pos) ->
  (Lib.closeSpans s (acc,st)).map (fun x=>(s.extract x.1 x.2).data.toList) =
  acc.map (fun x=>(s.extract x.1 x.2).data.toList) ++ toksF (match st with | none=>[] | some a=>(s.data.toList.take pos).drop a) (s.data.toList.drop pos):=fun pos st acc hp hst=>by
  subst hp;rw [ddl (Nat.le_of_eq hsz)]
  cases st with
  | none=>simp [Lib.closeSpans,toksF]
  | some a =>
    have ha:=hst a rfl
    have hne:(s.data.toList.take s.size).drop a≠[]:=by
     intro h0;have:=congrArg List.length h0;rw [List.length_drop,List.length_take,hsz] at this;simp at this;omega
    simp only [Lib.closeSpans,toksF,if_neg hne,List.map_append,List.map_cons,List.map_nil,extract_list]
 intro f
 induction f with
 | zero =>
   intro pos st acc h1 h2 h3;exact ending pos st acc (by omega) h3
 | succ f ih =>
   intro pos st acc h1 h2 h3;by_cases hp:pos<s.size
   ·simp only [Lib.spansFromP,hp,if_true]
    have hdrop:s.data.toList.drop pos=s.data.toList.getD pos 0 :: s.data.toList.drop (pos+1):=by
     rw [List.drop_eq_getElem_cons (by rw [hsz];exact hp),getD_data _ _ (by rw [hsz];exact hp)]
    rcases decode_space s pos hp with ⟨hb,hd⟩ | ⟨hr,hk1,hk2,hall⟩
    ·rw [hd];simp only [decide_true,if_true];rw [hdrop,hb]
     cases st with
     | none =>
       simp only;rw [ih (pos+1) none acc (by omega) (by omega) nofun];simp [toksF]
     | some a =>
       simp only;have ha:=h3 a rfl;rw [ih (pos+1) none _ (by omega) (by omega) nofun]
       have hne:(s.data.toList.take pos).drop a≠[]:=by
        intro h0;have:=congrArg List.length h0;rw [List.length_drop,List.length_take,hsz] at this;simp at this;omega
       have he:((s.extract a pos).data.toList)=(s.data.toList.take pos).drop a:=extract_list s a pos;simp only [List.map_append,List.map_cons,List.map_nil,he,toksF,if_pos,if_neg hne,List.append_assoc,List.cons_append,List.nil_append]
    ·simp only [decide_eq_true_eq,hr,if_false];obtain ⟨K,hK⟩:∃ K,(Utf8.decode s pos).2=K:=⟨_,rfl⟩;rw [hK] at hk1 hk2 hall;rw [hK]
     have hsplit:s.data.toList.drop pos=(s.data.toList.drop pos).take K ++ s.data.toList.drop (pos+K):=by
      rw [<-List.drop_drop];exact (List.take_append_drop K _).symm
     have hno:∀ x ∈ (s.data.toList.drop pos).take K,x≠32:=fun x hx=>by
      obtain ⟨j,hj,rfl⟩:=List.mem_iff_getElem.1 hx
      have hjk:j<K:=by simp at hj;omega
      have:=hall j hjk;rw [getD_data _ _ (by simp at hj;rw [hsz];omega)] at this;simpa using this
     have hcat:∀ a,a<=pos->(s.data.toList.take pos).drop a ++ (s.data.toList.drop pos).take K=(s.data.toList.take (pos+K)).drop a:=fun a ha=>by
      rw [List.take_add,List.drop_append_of_le_length (by rw [List.length_take,hsz];omega)]
     cases st with
     | none =>
       simp only;rw [ih (pos+K) (some pos) acc (by omega) (by omega) (fun a ha=>by cases ha;omega)];rw [hsplit,toksF_skip _ _ _ hno];simp only [List.nil_append]
       congr 2
       have:=hcat pos (Nat.le_refl _);rw [<-this,ddl (by rw [List.length_take,hsz];omega),List.nil_append]
     | some a =>
       simp only;have ha:=h3 a rfl;rw [ih (pos+K) (some a) acc (by omega) (by omega) (fun b hb=>by cases hb;omega)];rw [hsplit,toksF_skip _ _ _ hno,hcat a (by omega)]
   ·rw [Lib.spansFromP_end _ _ _ _ _ _ hp];exact ending pos st acc (by omega) h3
theorem fields_toks (s:Str):(Lib.goFieldsP (fun x=>decide (x=32)) ⟨s.toArray⟩).map (fun b=>b.data.toList)=toks s:=by
 unfold Lib.goFieldsP Lib.spansOfP;rw [List.map_map];have:=spans_toks ⟨s.toArray⟩ (⟨s.toArray⟩:ByteArray).size 0 none [] (by omega) (zle _) nofun;simpa [toks,Function.comp_def] using this
theorem FnOK.enter {P:Program} {g:FuncId} (h:FnOK P g) (args:Array Value) (w:World):(callFunc g args).run P w = .ok (.enter g args) w:=by
 obtain ⟨fn,hfn,hbody,hname⟩:=h.ex
 have hname' : fn.name≠ "runtime.NumGoroutine":=by simpa using hname
 have hbody' : fn.body≠none:=by intro h0;rw [h0] at hbody;cases hbody
 simp [callFunc,hfn,hbody',hname']
theorem Laid.grown {P:Program} {w W:World} {F G:Nat->Prop} (h:Laid P w.heap F) (hb:RowKit.Below w.heap.size w W) (hG:∀ b,b<w.heap.size->G b->F b):Laid P W.heap G:=fun x hx g hg=>by
 obtain ⟨h1,h2,h3⟩:=h x hx g hg;refine ⟨Nat.lt_of_lt_of_le h1 hb.size,fun hf=>h2 (hG g h1 hf),?_⟩;rw [hb.block g h1];exact h3
theorem Ct.pred {P:Program} {g:FuncId} {p:Nat->Bool} (h:∀ x:Nat,x<=1114111->Ct P g [.int .i32 x] fun r outs=>r = .bool (p x)/\outs = []) (w:World) {F:Nat->Prop} (hl:Laid P w.heap F):Go.Proofs.PredGrows P g #[] p w:=by
 intro W x hx hb;refine ((h x hx).ok W (fun _=>False) #[.int .i32 x] [] (fun _ h=>h.elim) ?_ List.nodup_nil ⟨nofun,hl.grown hb (fun _ _ h=>by simp at h)⟩).mono ?_
 ·simp [OdT,Od,Rd]
 ·rintro e w' ⟨v,r,outs,S',F',rfl,⟨rfl,rfl⟩,hB,hod⟩
  simp only [OdT,Od,Rd] at hod;obtain ⟨F1,F2,_,⟨rfl,_⟩,_⟩:=hod;exact ⟨rfl,hB.os,hB.tape,hB.output,hB.size,fun k hk=>hB.old k hk nofun⟩
theorem fields_ct {P:Program} {f g:FuncId} {e:Nat} (hfn:FnOK P f) (s:Str) (hp:∀ x:Nat,x<=1114111->Ct P g [.int .i32 x] fun r outs=>r = .bool (decide (x=32))/\outs = [])
 (hc:∀ (p:Nat->Bool) (s:ByteArray) (w:World),(∀ args w,(callFunc g args).run P w = .ok (.enter g args) w)->s.size<=4294967296->Go.Proofs.PredGrows P g #[] p w ->
   Calls P f #[.string s,.func (.func g) #[] #[]] w fun e' w'=>∃ A,e' = .returned (.slice (some ⟨A,0,none⟩) (Lib.goFieldsP p s).length (Lib.goFieldsP p s).length)/\w.heap.size<=A /\
    w'.ownsRow w.heap.size e 1 (.slice (some ⟨A,0,none⟩) (Lib.goFieldsP p s).length (Lib.goFieldsP p s).length) (Lib.goFieldsP p s).length ((Lib.goFieldsP p s).map Value.string)/\RowKit.Below w.heap.size w w')
 (hs:s.length<=4294967296):Ct P f [.str s,.fn g []] fun r outs=>r=strsO e (toks s)/\outs = []:=by
 refine ⟨hfn,fun w S0 vs F hS hod hnd hFS=>?_⟩;have hl:=hod.length
 obtain ⟨va,vb,hvs⟩:∃ va vb,vs = #[va,vb]:=by
  match vs,hl with
  | ⟨[a,b]⟩,_=>exact ⟨a,b,rfl⟩
 subst hvs;simp only [OdT,OdL,Od,Rd] at hod;obtain ⟨F1,F2,rfl,⟨rfl,rfl⟩,F3,F4,rfl,⟨cs,rfl,hcs⟩,rfl⟩:=hod
 obtain rfl:cs = #[]:=by
  match cs,hcs with
  | ⟨[]⟩,_=>rfl| ⟨_ :: _⟩,h=>simp [OdL] at h
 simp only [OdL] at hcs;subst hcs;refine (hc (fun x=>decide (x=32)) ⟨s.toArray⟩ w (fun args w=>(hp 0 (by omega)).fn.enter args w) (by simpa [ByteArray.size] using hs) (Ct.pred hp w hFS.2)).mono ?_
 rintro e' w' ⟨A,rfl,hA,hown,hb⟩
 have hft:=fields_toks s;generalize hL:Lib.goFieldsP (fun x=>decide (x=32)) ⟨s.toArray⟩=L at *
 have hlen:(toks s).length=L.length:=by rw [<-hft,List.length_map]
 refine ⟨_,_,_,S0,[A],rfl,⟨rfl,rfl⟩,⟨hb.os,hb.tape,hb.output,hb.size,fun b h1 _=>hb.block b h1,fun b h=>h,fun b h=>.inl h,by simp,?_,?_⟩,?_⟩
 ·intro b hb1 hb2;simp only [List.mem_singleton] at hb1;subst hb1;exact absurd (hS b hb2) (by omega)
 ·intro b hb1;simp only [List.mem_singleton] at hb1;subst hb1;exact .inr hA
 ·simp only [OdT,strsO,Od,ioV];refine ⟨[A],[],by simp,⟨⟨L.map Value.string,?_,fun i hi=>?_,fun u hu=>?_⟩,by simp [Value.ownBlock]⟩,rfl⟩
  ·rw [hlen];exact OwnsH.of_row hown
  ·rw [Nat.mul_one,List.drop_eq_getElem_cons (by simp;omega)]
   have hi' : i<L.length:=by omega
   simp only [List.take_succ_cons,List.take_zero,RdL,Rd,and_true];rw [<-hft];simp [Value.oneCell',List.getD,hi']
  ·obtain ⟨x,_,rfl⟩:=List.mem_map.1 hu;rfl
end Sx
namespace Sx
open Go
def tailS (sep:Str) (r:List Str):Str:=(r.map (sep ++ ·)).flatten
def joinS (sep:Str):List Str->Str
 | []=>[]| x :: r=>x ++ tailS sep r
theorem join_same (sep:Str) (l:List Str):Lib.join l sep=joinS sep l:=by
 cases l with
 | nil=>rfl
 | cons x r=>rw [Lib.join_cons];rfl
theorem tailS_app (sep:Str) (a b:List Str):tailS sep (a ++ b)=tailS sep a ++ tailS sep b:=by simp [tailS]
theorem joinS_snoc (sep:Str) (l:List Str) (x:Str):joinS sep (l ++ [x])=if l = [] then x else joinS sep l ++ sep ++ x:=by
 cases l with
 | nil=>simp [joinS,tailS]| cons y r=>simp [joinS,tailS_app,tailS]
theorem join_ct {P:Program} {f:FuncId} (hfn:FnOK P f) (l:List Str) (sep:Str) (hl:l.length<=140737488355328) (hlen:(joinS sep l).length<=140737488355328)
 (h0:∀ (a:Option Addr) (c:Nat) (sep:ByteArray) (w:World),Calls P f #[.slice a 0 c,.string sep] w fun e w'=>e = .returned (.string ⟨#[]⟩)/\w' = w)
 (h1:∀ (bk o c:Nat) (xs:List ByteArray) (sep:ByteArray) (w:World),(∀ (j:Nat) x,xs[j]? = some x->w.cell? ⟨bk,o+j,none⟩=some (.string x))->bk<w.heap.size->xs.length<=140737488355328->xs.length<=c->(Lib.join (xs.map (·.data.toList)) sep.data.toList).length<=140737488355328 ->
   Calls P f #[.slice (some ⟨bk,o,none⟩) xs.length c,.string sep] w fun e w'=>e = .returned (.string ⟨(Lib.join (xs.map (·.data.toList)) sep.data.toList).toArray⟩)/\RowKit.Below w.heap.size w w') :
 Ct P f [strs l,.str sep] fun r outs=>r = .str (joinS sep l)/\outs = []:=by
 refine ⟨hfn,fun w S0 vs F hS hod hnd hFS=>?_⟩;have hll:=hod.length
 obtain ⟨va,vb,hvs⟩:∃ va vb,vs = #[va,vb]:=by
  match vs,hll with
  | ⟨[a,b]⟩,_=>exact ⟨a,b,rfl⟩
 subst hvs;simp only [OdT,strs,Od] at hod;obtain ⟨F1,F2,rfl,⟨hv,rfl⟩,F3,F4,rfl,⟨hs,rfl⟩,rfl⟩:=hod;simp only [Rd] at hv hs;subst hs;obtain ⟨a,cap,rfl,hn,hel⟩:=hv
 have fin:∀ (e:Ending) (w' : World),e = .returned (.string ⟨(joinS sep l).toArray⟩)->RowKit.Below w.heap.size w w' ->
  ∃ v r outs S' F',e = .returned v/\(r=D.str (joinS sep l)/\outs = [])/\Back w S0 ([] ++ ([] ++ [])) w' S' F'/\OdT (MiS S' w'.heap) (r :: outs) (v :: ioV [D.tab 1 l.length fun i=>[.str (l.getD i [])],.str sep] [.slice a l.length cap,.string ⟨sep.toArray⟩]) F':=fun e w' he hb =>
  ⟨_,_,_,S0,[],he,⟨rfl,rfl⟩,⟨hb.os,hb.tape,hb.output,hb.size,fun b h1 _=>hb.block b h1,fun b h=>h,fun b h=>.inl h,List.nodup_nil,nofun,nofun⟩,by simp [OdT,Od,Rd,ioV]⟩
 by_cases hnil:l = []
 ·subst hnil;refine (h0 a cap ⟨sep.toArray⟩ w).mono ?_
  rintro e w' ⟨he,rfl⟩
  exact fin e w' he (RowKit.Below.refl _ _)
 ·have hpos:0<l.length:=List.length_pos_iff.2 hnil;obtain ⟨bk,o,rfl,hSb,_⟩:=hel 0 hpos
  have hx:=h1 bk o cap (l.map fun s=>⟨s.toArray⟩) ⟨sep.toArray⟩ w (fun j x hj=>by
   simp only [List.getElem?_map,Option.map_eq_some_iff] at hj;obtain ⟨s,hs,rfl⟩:=hj;have hjl:=(List.getElem?_eq_some_iff.1 hs).1;obtain ⟨b',off',e,_,vs',hl1,hc,hr⟩:=hel j hjl;cases e
   obtain ⟨u,rfl⟩:∃ u,vs' = [u]:=by
    match vs',hl1 with
    | [u],_=>exact ⟨u,rfl⟩
   have h3:=hc 0 (by simp);simp only [RdL,Rd] at hr;obtain ⟨_,rfl,_⟩:=hr;rw [cell?_at]
   have:l.getD j []=s:=by rw [gDe,hs];rfl
   rw [this] at h3
   simpa [MiS] using h3) (hS bk hSb) (by simpa using hl) (by simpa using hn) (by
    rw [List.map_map,join_same]
    simpa [Function.comp_def] using hlen)
  rw [List.length_map] at hx;refine hx.mono ?_
  rintro e w' ⟨he,hb⟩
  rw [List.map_map,join_same] at he;refine fin e w' ?_ hb;simpa [Function.comp_def] using he
end Sx
namespace Sx
open Go
def isUp (x:UInt8):Bool:=decide (65<=(x.toNat:Int)) && decide ((x.toNat:Int)<=90)
def isLow (x:UInt8):Bool:=decide (97<=(x.toNat:Int)) && decide ((x.toNat:Int)<=122)
def isDig (x:UInt8):Bool:=decide (48<=(x.toNat:Int)) && decide ((x.toNat:Int)<=57)
def isPrn (x:UInt8):Bool:=decide (32<=(x.toNat:Int)) && decide ((x.toNat:Int)<=126)
def isSnd (y:UInt8):Bool:=decide (128<=(y.toNat:Int)) && decide ((y.toNat:Int)<=191)
def isPair (x y:UInt8):Bool:=decide ((x.toNat:Int)=195) && isSnd y
def replL:List Str:=[[97],[97],[97],[97],[97],[97],[97,101],[99],[101],[101],[101],[101],[105],[105],[105],[105],[100],[110],[111],[111],[111],[111],[111],[],[111],[117],[117],[117],[117],[121],[116,104],[115,115],
 [97],[97],[97],[97],[97],[97],[97,101],[99],[101],[101],[101],[101],[105],[105],[105],[105],[100],[110],[111],[111],[111],[111],[111],[],[111],[117],[117],[117],[117],[121],[116,104],[121]]
def repl (y:UInt8):Str:=replL.getD (y.toNat - 128) []
def plainS (x:UInt8):Str:=if isUp x=true then [x+32] else if isLow x=true\/isDig x=true then [x] else if x=39 then [] else [32]
def validL:Str->Bool
 | []=>true| [x]=>isPrn x
 | x :: y :: l=>if isPair x y=true then validL l else isPrn x && validL (y :: l)
def rawL:Str->Str
 | []=>[]| [x]=>plainS x
 | x :: y :: l=>if isPair x y=true then repl y ++ rawL l else plainS x ++ rawL (y :: l)
def validS (s:Str):Bool:=validL s && decide (s.length<=64)
def foldS (s:Str):Str:=joinS [32] (toks (rawL s))
def pairAt (s:Str) (i:Nat):Bool:=decide (i+1<s.length) && isPair (s.getD i 0) (s.getD (i+1) 0)
theorem validL_pair {s:Str} {i:Nat} (h:pairAt s i=true):validL (s.drop i)=validL (s.drop (i+2)):=by
 simp only [pairAt,bat,decide_eq_true_eq] at h;rw [drop_step s 0 i (by omega),drop_step s 0 (i+1) (by omega),validL,if_pos h.2]
theorem validL_one {s:Str} {i:Nat} (hi:i<s.length) (h:pairAt s i=false):validL (s.drop i)=(isPrn (s.getD i 0) && validL (s.drop (i+1))):=by
 rw [drop_step s 0 i hi];by_cases h1:i+1<s.length
 ·rw [drop_step s 0 (i+1) h1,validL,if_neg];simpa [pairAt,h1] using h
 ·rw [ddl (by omega),validL];simp [validL]
theorem rawL_pair {s:Str} {i:Nat} (h:pairAt s i=true):rawL (s.drop i)=repl (s.getD (i+1) 0) ++ rawL (s.drop (i+2)):=by
 simp only [pairAt,bat,decide_eq_true_eq] at h;rw [drop_step s 0 i (by omega),drop_step s 0 (i+1) (by omega),rawL,if_pos h.2]
theorem rawL_one {s:Str} {i:Nat} (hi:i<s.length) (h:pairAt s i=false):rawL (s.drop i)=plainS (s.getD i 0) ++ rawL (s.drop (i+1)):=by
 rw [drop_step s 0 i hi];by_cases h1:i+1<s.length
 ·rw [drop_step s 0 (i+1) h1,rawL,if_neg];simpa [pairAt,h1] using h
 ·rw [ddl (by omega),rawL];simp [rawL]
def isAn (x:UInt8):Bool:=isLow x || isDig x
def addOK (t:Str):Bool:=(t.all isAn && decide (t.length<=2)) || decide (t = [32])
theorem all_u8 {p:UInt8->Bool} (h:(List.range 256).all fun n=>p (UInt8.ofNat n)) (x:UInt8):p x=true:=by
 have:=List.all_eq_true.1 h x.toNat (List.mem_range.2 (UInt8.toNat_lt x));simpa using this
theorem plain_add (x:UInt8):addOK (plainS x)=true:=all_u8 (p:=fun x=>addOK (plainS x)) (by decide +kernel) x
theorem repl_ok:∀ t ∈ replL,t.all isAn=true/\t.length<=2:=by decide
theorem repl_add (y:UInt8):(repl y).all isAn=true/\(repl y).length<=2:=by
 unfold repl;by_cases h:y.toNat - 128<replL.length
 ·exact repl_ok _ (getD_in h)
 ·rw [gDe,List.getElem?_eq_none (by omega)];exact ⟨rfl,by decide⟩
theorem rawL_len:∀ s:Str,(rawL s).length<=2*s.length
 | []=>by simp [rawL]
 | [x]=>by
   have:=plain_add x;simp only [addOK,Bool.or_eq_true,bat,decide_eq_true_eq] at this;simp only [rawL,List.length_cons,List.length_nil]
   rcases this with h | h
   ·omega
   ·rw [h];simp
 | x :: y :: l=>by
   simp only [rawL];split
   ·have:=rawL_len l;have:=(repl_add y).2;simp only [lap,List.length_cons];omega
   ·have:=rawL_len (y :: l);have h2:=plain_add x;simp only [addOK,Bool.or_eq_true,bat,decide_eq_true_eq] at h2;simp only [lap,List.length_cons] at this ⊢
    rcases h2 with h | h
    ·omega
    ·rw [h];simp;omega
theorem rawL_chars:∀ (s:Str),∀ x ∈ rawL s,isAn x=true\/x=32
 | [],x,h=>by simp [rawL] at h
 | [y],x,h=>by
   have:=plain_add y;simp only [addOK,Bool.or_eq_true,bat,decide_eq_true_eq,List.all_eq_true] at this;simp only [rawL] at h
   rcases this with h1 | h1
   ·exact .inl (h1.1 x h)
   ·rw [h1] at h;exact .inr (List.mem_singleton.1 h)
 | y :: z :: l,x,h=>by
   simp only [rawL] at h;split at h
   ·rcases List.mem_append.1 h with h | h
    ·exact .inl (List.all_eq_true.1 (repl_add z).1 x h)
    ·exact rawL_chars l x h
   ·rcases List.mem_append.1 h with h | h
    ·have:=plain_add y;simp only [addOK,Bool.or_eq_true,bat,decide_eq_true_eq,List.all_eq_true] at this
     rcases this with h1 | h1
     ·exact .inl (h1.1 x h)
     ·rw [h1] at h;exact .inr (List.mem_singleton.1 h)
    ·exact rawL_chars (z :: l) x h
def opt (p:Str):List Str:=if p = [] then [] else [p]
theorem toksF_nil (p:Str):toksF p []=opt p:=rfl
theorem toksF_sp (p l:Str):toksF p (32 :: l)=opt p ++ toksF [] l:=by
 rw [toksF,if_pos rfl];unfold opt;split<;>rfl
theorem toksF_mem:∀ (l p t:Str),t ∈ toksF p l->t≠[]/\∀ x ∈ t,x ∈ p\/(x ∈ l/\x≠32)
 | [],p,t,h=>by
   rw [toksF_nil] at h;unfold opt at h;split at h
   ·cases h
   ·rw [List.mem_singleton.1 h];exact ⟨‹_›,fun x hx=>.inl hx⟩
 | y :: l,p,t,h=>by
   by_cases hy:y=32
   ·subst hy;rw [toksF_sp] at h
    rcases List.mem_append.1 h with h | h
    ·unfold opt at h;split at h
     ·cases h
     ·rw [List.mem_singleton.1 h];exact ⟨‹_›,fun x hx=>.inl hx⟩
    ·have:=toksF_mem l [] t h;exact ⟨this.1,fun x hx=>(this.2 x hx).elim (fun h=>by cases h) (fun h=>.inr ⟨by simp [h.1],h.2⟩)⟩
   ·rw [toksF,if_neg hy] at h;have:=toksF_mem l _ t h;refine ⟨this.1,fun x hx=>?_⟩
    rcases this.2 x hx with h | h
    ·rcases List.mem_append.1 h with h | h
     ·exact .inl h
     ·rw [List.mem_singleton.1 h];exact .inr ⟨by simp,hy⟩
    ·exact .inr ⟨by simp [h.1],h.2⟩
theorem joinS_opt (acc:List Str) (p:Str):joinS [32] (acc ++ opt p)=if p = [] then joinS [32] acc else if acc = [] then p else joinS [32] acc ++ [32] ++ p:=by
 unfold opt;split
 ·simp
 ·rw [joinS_snoc]
theorem join_toksF:∀ (l p:Str) (acc:List Str),(joinS [32] (acc ++ toksF p l)).length<=(joinS [32] acc).length+1+p.length+l.length/\(acc = []->(joinS [32] (toksF p l)).length<=p.length+l.length)
 | [],p,acc=>by
   rw [toksF_nil];constructor
   ·rw [joinS_opt];split
    ·simp;omega
    ·split
     ·rename_i h;subst h;simp
     ·simp;omega
   ·intro _;unfold opt;split
    ·simp [joinS]
    ·simp [joinS,tailS]
 | y :: l,p,acc=>by
   by_cases hy:y=32
   ·subst hy;rw [toksF_sp,<-List.append_assoc];have h1:=join_toksF l [] (acc ++ opt p);rw [joinS_opt] at h1;constructor
    ·refine Nat.le_trans h1.1 ?_;split
     ·simp;omega
     ·split
      ·rename_i h;subst h;simp [joinS];omega
      ·simp;omega
    ·intro _;by_cases hp:p = []
     ·subst hp;have:=(join_toksF l [] []).2 rfl;simp [opt] at this ⊢;omega
     ·have:=(join_toksF l [] [p]).1
      have e1:joinS [32] [p]=p:=by simp [joinS,tailS]
      rw [e1] at this;simp only [opt,hp,if_false,List.length_cons,List.length_nil] at this ⊢;omega
   ·rw [toksF,if_neg hy];have h1:=join_toksF l (p ++ [y]) acc;simp only [lap,List.length_cons,List.length_nil] at h1 ⊢;exact ⟨by omega,fun h=>by have:=h1.2 h;omega⟩
theorem foldS_len (s:Str):(foldS s).length<=2*s.length:=by
 have:=(join_toksF (rawL s) [] []).2 rfl;have h2:=rawL_len s;unfold foldS toks;simp at this;omega
theorem toks_count:∀ (l p:Str),(toksF p l).length<=1+l.length
 | [],p=>by rw [toksF_nil];unfold opt;split<;>simp
 | y :: l,p=>by
   by_cases hy:y=32
   ·subst hy;rw [toksF_sp];have:=toks_count l []
    have:(opt p).length<=1:=by unfold opt;split<;>simp
    simp only [lap,List.length_cons];omega
   ·rw [toksF,if_neg hy];have:=toks_count l (p ++ [y]);simp only [List.length_cons];omega
theorem toksF_add:∀ (a p l:Str),(∀ x ∈ a,x≠32)->toksF p (a ++ l)=toksF (p ++ a) l
 | [],p,l,_=>by simp
 | x :: a,p,l,h=>by
   rw [List.cons_append,toksF,if_neg (h x (by simp)),toksF_add a _ l fun y hy=>h y (by simp [hy])];simp
end Sx
namespace Sx
open Go
theorem plain_len1 (x:UInt8):(plainS x).length<=1:=by
 have:=all_u8 (p:=fun x=>decide ((plainS x).length<=1)) (by decide +kernel) x;simpa using this
theorem rawL_le:∀ s:Str,(rawL s).length<=s.length
 | []=>by simp [rawL]
 | [x]=>plain_len1 x
 | x :: y :: l=>by
   simp only [rawL];split
   ·have:=rawL_le l;have:=(repl_add y).2;simp only [lap,List.length_cons];omega
   ·have:=rawL_le (y :: l);have:=plain_len1 x;simp only [lap,List.length_cons] at *;omega
theorem foldS_le (s:Str):(foldS s).length<=s.length:=by
 have:=(join_toksF (rawL s) [] []).2 rfl;have h2:=rawL_le s;unfold foldS toks;simp at this;omega
def foldedC (s:Str):Prop:=∀ x ∈ s,isAn x=true\/x=32
theorem plain_an:∀ x:UInt8,isAn x=true\/x=32->plainS x = [x]/\isPrn x=true:=fun x h=>by
 have:=all_u8 (p:=fun x=>!(isAn x || decide (x=32)) || (decide (plainS x = [x]) && isPrn x)) (by decide +kernel) x
 have h2:(isAn x || decide (x=32))=true:=by simpa using h
 simpa [h2] using this
theorem prn_not {x:UInt8} (y:UInt8) (h:isPrn x=true):isPair x y=false:=by
 have:=all_u8 (p:=fun x=>!(isPrn x) || !decide ((x.toNat:Int)=195)) (by decide +kernel) x;simp only [h,Bool.not_true,Bool.false_or,Bool.not_eq_true',decide_eq_false_iff_not] at this;simp [isPair,this]
theorem rawL_prn:∀ s:Str,(∀ x ∈ s,isPrn x=true)->validL s=true/\rawL s=s.flatMap plainS
 | [],_=>⟨rfl,rfl⟩| [x],h=>⟨h x (by simp),by simp [rawL]⟩
 | x :: y :: l,h=>by
   have hx:=h x (by simp)
   have ih:=rawL_prn (y :: l) fun z hz=>h z (by simp [hz])
   simp only [validL,rawL,prn_not y hx,bft,if_false,hx,Bool.true_and];exact ⟨ih.1,by rw [ih.2];simp⟩
theorem rawL_an (s:Str) (h:foldedC s):validL s=true/\rawL s=s:=by
 have h1:=rawL_prn s fun x hx=>(plain_an x (h x hx)).2
 refine ⟨h1.1,h1.2.trans ?_⟩;clear h1
 induction s with
 | nil=>rfl
 | cons x l ih=>rw [List.flatMap_cons,(plain_an x (h x (by simp))).1,ih fun y hy=>h y (by simp [hy])];rfl
def tokL (l:List Str):Prop:=∀ t ∈ l,t≠[]/\∀ x ∈ t,x≠32
theorem toks_tokL (s:Str):tokL (toks s):=fun t ht =>
 let h:=toksF_mem s [] t ht
 ⟨h.1,fun x hx=>(h.2 x hx).elim (fun h=>by cases h) fun h=>h.2⟩
theorem toks_tail:∀ (l:List Str) (p:Str),tokL l->toksF p (tailS [32] l)=opt p ++ l
 | [],p,_=>by simp [tailS,toksF_nil]
 | t :: l,p,h=>by
   have ht:=h t (by simp)
   have e:tailS [32] (t :: l)=32 :: (t ++ tailS [32] l):=by simp [tailS]
   rw [e,toksF_sp,toksF_add _ _ _ ht.2,toks_tail l _ fun u hu=>h u (by simp [hu])];simp [opt,ht.1]
theorem toks_join (l:List Str) (h:tokL l):toks (joinS [32] l)=l:=by
 cases l with
 | nil=>rfl
 | cons t l =>
   have ht:=h t (by simp);unfold toks joinS;rw [toksF_add _ _ _ ht.2,toks_tail l _ fun u hu=>h u (by simp [hu])];simp [opt,ht.1]
theorem join_mem {l:List Str} {x:UInt8} (h:x ∈ joinS [32] l):x=32\/∃ t ∈ l,x ∈ t:=by
 cases l with
 | nil=>cases h
 | cons t l =>
   rcases List.mem_append.1 h with h | h
   ·exact .inr ⟨t,by simp,h⟩
   ·simp only [tailS,List.mem_flatten,List.mem_map] at h;obtain ⟨u,⟨v,hv,rfl⟩,hx⟩:=h
    rcases List.mem_append.1 hx with h | h
    ·exact .inl (List.mem_singleton.1 h)
    ·exact .inr ⟨v,by simp [hv],h⟩
theorem foldS_chars (s:Str):foldedC (foldS s):=fun x hx=>by
 rcases join_mem hx with h | ⟨t,ht,hx⟩
 ·exact .inr h
 ·rcases (toksF_mem (rawL s) [] t ht).2 x hx with h | h
  ·cases h
  ·exact rawL_chars s x h.1
theorem foldS_fix (s:Str) (h:foldedC s):foldS s=joinS [32] (toks s):=by rw [foldS,(rawL_an s h).2]
theorem foldS_twice (s:Str):foldS (foldS s)=foldS s:=by
 rw [foldS_fix _ (foldS_chars s)]
 conv=>lhs;arg 2;arg 1;rw [foldS]
 rw [toks_join _ (toks_tokL _)];rfl
def Fixed (s:Str):Prop:=foldedC s/\joinS [32] (toks s)=s
theorem foldS_fixed (s:Str):Fixed (foldS s):=⟨foldS_chars s,by
 have:=foldS_twice s
 rwa [foldS_fix _ (foldS_chars s)] at this⟩
def foldO (s:Str):Str:=if validS s=true then foldS s else []
def foldE (s:Str):Int:=if validS s=true then 0 else 3
end Sx
namespace Sx
open Go
abbrev Pr:=Str × Str
abbrev less (a b:Str):Bool:=Op.bytesLess a b
theorem range_step {n i:Nat} (f:Nat->Bool) (h:i<n):((List.range n).drop i).all f=(f i && ((List.range n).drop (i+1)).all f):=by
 have hl:(List.range n).length=n:=List.length_range;rw [drop_step (List.range n) 0 i (by omega),List.all_cons]
 congr 2
 rw [gDe,List.getElem?_eq_getElem (by omega),Option.getD_some,List.getElem_range]
theorem range_end {n:Nat} (f:Nat->Bool):((List.range n).drop n).all f=true:=by
 rw [ddl (by simp)];rfl
def lettersS (s:Str):Str:=s.filter isLow
def tkn (s:Str):Bool:=!decide (s = []) && decide (s.length<=64) && decide (lettersS s=s)
def hasS (l:List Str) (s:Str):Bool:=l.any fun x=>decide (x=s)
def tAt (l:List Str) (j:Nat):Bool:=tkn (l.getD j []) && (decide (j=0) || less (l.getD (j - 1) []) (l.getD j []))
def titlesB (l:List Str):Bool:=(List.range l.length).all (tAt l)
def aAt (l:List Str) (j:Nat):Bool:=less (l.getD (j - 1) []) (l.getD j [])
def ascB (l:List Str):Bool:=((List.range l.length).drop 1).all (aAt l)
def pGet (l:List Pr) (j:Nat):Pr:=l.getD j ([],[])
def froms (l:List Pr):List Str:=l.map (·.1)
def pAt (l:List Pr) (j:Nat):Bool:=tkn (pGet l j).1 && tkn (pGet l j).2 && (decide (j=0) || less (pGet l (j - 1)).1 (pGet l j).1) && !hasS (froms l) (pGet l j).2
def pairsB (l:List Pr):Bool:=(List.range l.length).all (pAt l)
theorem mem_drop1 {n j:Nat}:j ∈ (List.range n).drop 1 ↔ 1<=j/\j<n:=by
 cases n with
 | zero=>simp
 | succ n =>
   rw [List.range_succ_eq_map];simp only [List.drop_succ_cons,List.drop_zero,List.mem_map,List.mem_range];constructor
   ·rintro ⟨a,h,rfl⟩;omega
   ·intro h;exact ⟨j - 1,by omega,by omega⟩
theorem froms_len (l:List Pr):(froms l).length=l.length:=by simp [froms]
theorem froms_get (l:List Pr) (j:Nat):(froms l).getD j []=(pGet l j).1:=by
 simp only [froms,pGet,gDe,List.getElem?_map]
 cases l[j]?<;>rfl
theorem pairs_eq (l:List Pr):pairsB l=((l.all fun p=>tkn p.1 && tkn p.2) && ((l.all fun p=>!hasS (froms l) p.2) && ascB (froms l))):=by
 rw [Bool.eq_iff_iff,bat,bat];simp only [pairsB,ascB,List.all_eq_true,List.mem_range,mem_drop1,pAt,aAt,bat,Bool.or_eq_true,decide_eq_true_eq,froms_len,froms_get]
 have g:∀ x ∈ l,∃ j,j<l.length/\pGet l j=x:=fun x hx=>by
  obtain ⟨j,hj,rfl⟩:=List.mem_iff_getElem.1 hx;exact ⟨j,hj,by rw [pGet,gDe,List.getElem?_eq_getElem hj];rfl⟩
 constructor
 ·intro h;refine ⟨fun x hx=>?_,fun x hx=>?_,fun j hj=>(h j hj.2).1.2.resolve_left (by omega)⟩
  ·obtain ⟨j,hj,rfl⟩:=g x hx;exact (h j hj).1.1
  ·obtain ⟨j,hj,rfl⟩:=g x hx;exact (h j hj).2
 ·intro h j hj;exact ⟨⟨h.1 _ (getD_in hj),(Nat.eq_zero_or_pos j).imp id fun h0=>h.2.2 j ⟨h0,hj⟩⟩,h.2.1 _ (getD_in hj)⟩
def replS (l:List Pr) (s:Str):Str:=match l.find? fun p=>decide (p.1=s) with
 | some p=>p.2| none=>s
def idxF {α:Type} (p:α->Bool):List α->Int
 | []=>-1
 | x :: l=>if p x=true then 0 else bif decide (idxF p l<0) then -1 else idxF p l+1
theorem idxF_neg {α:Type} (p:α->Bool):∀ l:List α,idxF p l<0 ↔ l.any p=false
 | []=>by simp [idxF]
 | x :: l=>by
   have ih:=idxF_neg p l;rw [idxF,List.any_cons];by_cases h:p x=true
   ·simp [h]
   ·rw [if_neg h]
    have h' : p x=false:=by simpa using h
    rw [h',Bool.false_or,<-ih];by_cases h2:idxF p l<0
    ·simp [h2]
    ·simp [h2];omega
structure Ru where
 t:List Str
 n:List Pr
 s:List Pr
def checkE (r:Ru):Int :=
 if r.t.length<=32/\r.n.length<=32/\r.s.length<=32 then
  (if (titlesB r.t && pairsB r.n && pairsB r.s && !(r.n.any fun p=>hasS r.t p.2))=true then 0 else 5)
 else 1
def keepL (r:Ru) (l:List Str):List Str:=((l.map lettersS).filter fun x=>!decide (x = []) && !hasS r.t x).map (replS r.n)
theorem idxF_no {α:Type} (p:α->Bool):∀ l:List α,l.any p=false->idxF p l = -1
 | [],_=>rfl
 | x :: l,h=>by
   rw [List.any_cons,Bool.or_eq_false_iff] at h;rw [idxF,if_neg (by simp [h.1]),idxF_no p l h.2];rfl
theorem idxF_at {α:Type} (p:α->Bool) (z:α):∀ (l:List α) (i:Nat),i<l.length->(l.take i).any p=false->p (l.getD i z)=true->idxF p l=i
 | [],i,hi,_,_=>by simp at hi
 | x :: l,0,_,_,h=>by simp at h;rw [idxF,if_pos h];rfl
 | x :: l,i+1,hi,h0,h=>by
   rw [List.take_succ_cons,List.any_cons,Bool.or_eq_false_iff] at h0;have ih:=idxF_at p z l i (by simpa using hi) h0.2 (by simpa using h);rw [idxF,if_neg (by simp [h0.1]),ih];have:decide ((i:Int)<0)=false:=decide_eq_false (by omega);rw [this];simp
theorem any_take {α:Type} (p:α->Bool) (l:List α) (z:α) (i:Nat) (h:i<l.length):(l.take (i+1)).any p=((l.take i).any p || p (l.getD i z)):=by
 rw [take_step l z i h];simp
theorem idxF_find {α:Type} (p:α->Bool) (z:α):∀ (l:List α),0<=idxF p l->(idxF p l).toNat<l.length/\l.find? p=some (l.getD (idxF p l).toNat z)
 | [],h=>by simp [idxF] at h
 | x :: l,h=>by
   by_cases hx:p x=true
   ·rw [idxF,if_pos hx];simp [hx]
   ·rw [idxF,if_neg hx] at h ⊢;by_cases h2:idxF p l<0
    ·rw [decide_eq_true h2] at h;simp at h
    ·rw [decide_eq_false h2];have ih:=idxF_find p z l (by omega);simp only [cond_false];rw [show (idxF p l+1).toNat=(idxF p l).toNat+1 by omega];refine ⟨by simp;exact ih.1,?_⟩;rw [List.find?_cons_of_neg hx,ih.2];simp
theorem find_none {α:Type} (p:α->Bool) (l:List α) (h:idxF p l<0):l.find? p=none:=by
 rw [idxF_neg] at h;rw [List.find?_eq_none];intro x hx hp;have:=List.any_eq_false.1 h x hx;exact this hp
theorem replS_at {l:List Pr} {s:Str} (h:0<=idxF (fun p:Pr=>decide (p.1=s)) l):replS l s=(pGet l (idxF (fun p:Pr=>decide (p.1=s)) l).toNat).2:=by
 rw [replS,(idxF_find _ ([],[]) l h).2];rfl
theorem replS_no {l:List Pr} {s:Str} (h:idxF (fun p:Pr=>decide (p.1=s)) l<0):replS l s=s:=by
 rw [replS,find_none _ _ h]
theorem hasS_idx (l:List Str) (s:Str):decide (0<=idxF (fun x=>decide (x=s)) l)=hasS l s:=by
 have:=idxF_neg (fun x=>decide (x=s)) l;unfold hasS
 cases h:l.any fun x=>decide (x=s) with
 | true =>
   refine decide_eq_true (Int.not_lt.1 fun h2=>?_);rw [this.1 h2] at h;cases h
 | false=>have:=this.2 h;exact decide_eq_false (by omega)
theorem froms_has (l:List Pr) (s:Str):hasS (froms l) s=l.any fun p=>decide (p.1=s):=by simp [hasS,froms,List.any_map,Function.comp_def]
theorem find_idx (l:List Pr) (s:Str):decide (0<=idxF (fun p:Pr=>decide (p.1=s)) l)=hasS (froms l) s:=by
 have:=idxF_neg (fun p:Pr=>decide (p.1=s)) l;rw [froms_has]
 cases h:l.any fun p=>decide (p.1=s) with
 | true =>
   refine decide_eq_true (Int.not_lt.1 fun h2=>?_);rw [this.1 h2] at h;cases h
 | false=>have:=this.2 h;exact decide_eq_false (by omega)
end Sx
namespace Sx
open Go
def normL (r:Ru) (s:Str):List Str:=keepL r (toks (foldO s))
def normOK (r:Ru) (s:Str):Bool:=decide ((normL r s).length<=6) && decide ((joinS [32] (normL r s)).length<=64)
def normE (r:Ru) (s:Str):Int:=if checkE r=0 then if foldE s=0 then if normOK r s=true then 0 else 1 else foldE s else checkE r
def normO (r:Ru) (s:Str):Str:=if normE r s=0 then joinS [32] (normL r s) else []
theorem keepL_app (r:Ru) (a b:List Str):keepL r (a ++ b)=keepL r a ++ keepL r b:=by simp [keepL]
theorem keepL_one (r:Ru) (x:Str):keepL r [x]=if lettersS x = [] then [] else if hasS r.t (lettersS x)=true then [] else [replS r.n (lettersS x)]:=by
 by_cases h1:lettersS x = []
 ·rw [if_pos h1];simp [keepL,h1]
 ·rw [if_neg h1];by_cases h2:hasS r.t (lettersS x)=true
  ·rw [if_pos h2];simp [keepL,h1,h2]
  ·rw [if_neg h2];simp [keepL,h1,h2]
theorem keepL_step (r:Ru) (l:List Str) (i:Nat) (h:i<l.length):keepL r (l.take (i+1))=keepL r (l.take i) ++ keepL r [l.getD i []]:=by
 rw [take_step l [] i h,keepL_app]
theorem keepL_len (r:Ru) (l:List Str):(keepL r l).length<=l.length:=by
 unfold keepL;rw [List.length_map];have:=List.length_filter_le (fun x=>!decide (x = []) && !hasS r.t x) (l.map lettersS)
 rwa [List.length_map] at this
theorem replS_mem (l:List Pr) (s:Str):(replS l s=s/\hasS (froms l) s=false)\/∃ p ∈ l,p.1=s/\replS l s=p.2:=by
 unfold replS
 cases h:l.find? fun p=>decide (p.1=s) with
 | none =>
   left
   refine ⟨rfl,?_⟩;rw [froms_has,List.any_eq_false]
   exact fun x hx=>List.find?_eq_none.1 h x hx
 | some p=>exact .inr ⟨p,List.mem_of_find?_eq_some h,by simpa using List.find?_some h,rfl⟩
theorem checkE_ok {r:Ru} (h:checkE r=0):(r.t.length<=32/\r.n.length<=32/\r.s.length<=32)/\titlesB r.t=true/\pairsB r.n=true/\pairsB r.s=true/\(r.n.any fun p=>hasS r.t p.2)=false:=by
 unfold checkE at h;split at h
 ·rename_i h1;split at h
  ·rename_i h2;simp only [bat,Bool.not_eq_true'] at h2;exact ⟨h1,h2.1.1.1,h2.1.1.2,h2.1.2,h2.2⟩
  ·cases h
 ·cases h
theorem pairs_tkn {l:List Pr} (h:pairsB l=true) {p:Pr} (hp:p ∈ l):tkn p.1=true/\tkn p.2=true/\hasS (froms l) p.2=false:=by
 rw [pairs_eq,bat,bat] at h;have h1:=List.all_eq_true.1 h.1 p hp;have h2:=List.all_eq_true.1 h.2.1 p hp;simp only [bat] at h1;exact ⟨h1.1,h1.2,by simpa using h2⟩
theorem tkn_of {s:Str} (h:tkn s=true):s≠[]/\s.length<=64/\lettersS s=s:=by
 simpa [tkn,and_assoc] using h
theorem letters_fix {s:Str}:lettersS s=s ↔ ∀ x ∈ s,isLow x=true:=by
 unfold lettersS;exact List.filter_eq_self
theorem letters_len (s:Str):(lettersS s).length<=s.length:=List.length_filter_le _ _
theorem join_mem_len:∀ {l:List Str} {t:Str},t ∈ l->t.length<=(joinS [32] l).length:=fun {l t} h=>by
 cases l with
 | nil=>cases h
 | cons u l =>
   have g:∀ l:List Str,t ∈ l->t.length<=(tailS [32] l).length:=fun l=>by
    induction l with
    | nil=>intro h;cases h
    | cons v l ih =>
      intro h
      have e:tailS [32] (v :: l)=32 :: (v ++ tailS [32] l):=by simp [tailS]
      rw [e]
      rcases List.mem_cons.1 h with rfl | h
      ·simp;omega
      ·have:=ih h;simp;omega
   unfold joinS
   rcases List.mem_cons.1 h with rfl | h
   ·simp
   ·have:=g l h;simp;omega
theorem foldO_fixed (s:Str):Fixed (foldO s):=by
 unfold foldO;split
 ·exact foldS_fixed s
 ·exact ⟨nofun,rfl⟩
theorem foldO_le (s:Str):(foldO s).length<=s.length:=by
 unfold foldO;split
 ·exact foldS_le s
 ·simp
theorem keep_len {r:Ru} (hr:checkE r=0) (s:Str):∀ t ∈ keepL r (toks (foldO s)),t.length<=64+s.length:=fun t ht=>by
 simp only [keepL,List.mem_map,List.mem_filter] at ht;obtain ⟨y,⟨⟨x,hx,rfl⟩,_⟩,rfl⟩:=ht
 rcases replS_mem r.n (lettersS x) with ⟨e,_⟩ | ⟨p,hp,_,e⟩
 ·rw [e];have h1:=letters_len x;have h2:=join_mem_len hx;rw [(foldO_fixed s).2] at h2;have:=foldO_le s;omega
 ·rw [e];have:=(tkn_of (pairs_tkn (checkE_ok hr).2.2.1 hp).2.1).2.1;omega
end Sx
namespace Sx
open Go
end Sx
namespace Sx
open Go
end Sx
namespace Sx
open Go
def pvD:D->Option Value
 | .int k n=>some (.int k n)| .str s=>some (.string ⟨s.toArray⟩)| .bool b=>some (.bool b)| .lit b=>some (.bool b)| _=>none
def pvL:List D->Option (List Value)
 | []=>some []
 | d :: l=>match pvD d,pvL l with
   | some v,some vs=>some (v :: vs)| _,_=>none
theorem pvD_od {M:Mi} {d:D} {v v' : Value} {F:List Nat} (h:pvD d=some v) (ho:Od M d v' F):v' = v/\F = []:=by
 cases d<;>simp only [pvD,Option.some.injEq,reduceCtorEq] at h<;>subst h<;>simp only [Od,Rd] at ho<;>exact ho
theorem pvL_od {M:Mi}:∀ {l:List D} {vs vs' : List Value} {F:List Nat},pvL l=some vs->OdT M l vs' F->vs' = vs/\F = []
 | [],vs,vs',F,h,ho=>by
   simp only [pvL,Option.some.injEq] at h;subst h
   cases vs' with
   | nil=>simpa [OdT] using ho| cons _ _=>simp [OdT] at ho
 | d :: l,vs,vs',F,h,ho=>by
   unfold pvL at h;split at h
   ·rename_i v us h1 h2;simp only [Option.some.injEq] at h;subst h
    cases vs' with
    | nil=>simp [OdT] at ho
    | cons a b =>
      simp only [OdT] at ho;obtain ⟨F1,F2,rfl,o1,o2⟩:=ho;obtain ⟨rfl,rfl⟩:=pvD_od h1 o1;obtain ⟨rfl,rfl⟩:=pvL_od h2 o2;exact ⟨rfl,rfl⟩
   ·cases h
theorem ioV_pv:∀ {l:List D} {vs:List Value},pvL l=some vs->∀ us,ioV l us = []
 | [],_,_,us=>by cases us<;>rfl
 | d :: l,vs,h,us=>by
   unfold pvL at h;split at h
   ·rename_i v ws h1 h2
    cases us with
    | nil=>cases d<;>simp [pvD] at h1<;>rfl
    | cons u us =>
      have:=ioV_pv h2 us
      cases d<;>simp only [pvD,reduceCtorEq] at h1<;>exact this
   ·cases h
theorem Ct.lib {P:Program} {g:FuncId} {args:List D} {vs:List Value} {r:D} {v:Value} (hfn:FnOK P g) (ha:pvL args=Option.some vs) (hr:∀ M,Od M r v [])
 (h:∀ w,Laid P w.heap (fun _=>False)->Calls P g ⟨vs⟩ w fun e w'=>e = .returned v/\RowKit.Below w.heap.size w w'):Ct P g args fun q outs=>q=r/\outs = []:=by
 refine ⟨hfn,fun w S0 us F hS hod hnd hFS=>?_⟩;obtain ⟨h1,rfl⟩:=pvL_od ha hod
 obtain rfl:us=⟨vs⟩:=by rw [<-h1]
 refine (h w fun x hx g hg=>⟨(hFS.2 x hx g hg).1,id,(hFS.2 x hx g hg).2.2⟩).mono ?_
 rintro e w' ⟨rfl,hb⟩
 refine ⟨v,r,[],S0,[],rfl,⟨rfl,rfl⟩,⟨hb.os,hb.tape,hb.output,hb.size,fun b h1 _=>hb.block b h1,fun b h=>h,fun b h=>.inl h,List.nodup_nil,nofun,nofun⟩,?_⟩;rw [ioV_pv ha];simp only [OdT];exact ⟨[],[],rfl,hr _,rfl⟩
theorem below_same {w w' : World} (h:w' = w):RowKit.Below w.heap.size w w':=h ▸ .refl _ _
end Sx
namespace Sx
open Go
open Go.Shelf Go.RowKit Go.Lib Go.Sort
section
variable {P:Program} {c:Cx P} {nt:Nt} {M:Mi} {st:St} {a:Act} {w:World}
end
end Sx
namespace Sx
open Go
end Sx
namespace Sx
open Go
def caO (sto:Nat->Box) (k:Nat):List D->List Nat->List Nat->(List D->List Nat->List Nat->Prop)->Prop
 | [],us,ls,K=>K [] us ls
 | d :: l,us,ls,K =>
   match d with
   | .own m=>match Nat.beq m k with
     | true=>match memN k us with
       | true=>False
       | false=>match sto k with
         | .arr e sz n f=>caO sto k l (k :: us) ls fun l us ls=>K (.foar e sz n f :: l) us ls
         | _=>False
     | false=>leD sto 6 d ls fun d ls=>caO sto k l us ls fun l us ls=>K (d :: l) us ls
   | d=>leD sto 6 d ls fun d ls=>caO sto k l us ls fun l us ls=>K (d :: l) us ls
theorem Mem.reviveO {Pc:Program} {c:Cx Pc} {M:Mi} {sto:Nat->Box} (H:Mem c M sto) {n:Nat} (hn:n<M.nx) (bx:Box) (hb:BoxOK M n bx)
 (hS:∀ b,M.ρ n=some b->¬ M.S b) (hocc:∀ b,M.ρ n=some b->∀ m,sto m≠.dead->¬ M.O m b) (hfr:∀ b,M.ρ n=some b->c.w0.heap.size<=b\/c.W0 b) (hX:∀ b,¬ M.X n b):Mem c M (upd sto n bx):=by
 have hO:∀ b',M.O n b'->M.ρ n=some b':=fun b' h=>h.elim id fun h=>absurd h (hX b')
 have live:∀ m,m≠n->upd sto n bx m≠.dead->sto m≠.dead:=fun m e h=>by rw [upd_ne _ _ e] at h;exact h
 refine ⟨H.size,H.frame,H.Slt,H.Sold,fun m hm=>?_,fun m hm=>?_,fun m k b' h1 h2 r1 r2=>?_,fun m b' h1 r1=>?_,fun m b' h1 r1=>?_,fun m h1 hf=>?_⟩
 ·by_cases e:m=n
  ·subst e;rw [upd_self];exact hb
  ·rw [upd_ne _ _ e];exact H.box m hm
 ·have:m≠n:=fun e=>by subst e;omega
  rw [upd_ne _ _ this];exact H.dead m hm
 ·by_cases e1:m=n<;>by_cases e2:k=n
  ·rw [e1,e2]
  ·subst e1;exact absurd r2 (hocc b' (hO b' r1) k (live k e2 h2))
  ·subst e2;exact absurd r1 (hocc b' (hO b' r2) m (live m e1 h1))
  ·exact H.injO m k b' (live m e1 h1) (live k e2 h2) r1 r2
 ·by_cases e:m=n
  ·subst e;exact hS b' (hO b' r1)
  ·exact H.sepO m b' (live m e h1) r1
 ·by_cases e:m=n
  ·subst e;exact hfr b' (hO b' r1)
  ·exact H.frO m b' (live m e h1) r1
 ·by_cases e:m=n
  ·subst e;exact hX
  ·have h1':=live m e h1;rw [upd_ne _ _ e] at hf;exact H.non m h1' hf
def outL (outs:List D) (s:Nat->Box) (n k:Nat) (K:(Nat->Box)->Nat->Prop):Prop :=
 match outs with
 | [.ftab e sz m f]=>K (upd s k (.arr e sz m f)) n| _=>False
theorem caO_ex {sto:Nat->Box} {k:Nat}:∀ (l:List D) (us ls:List Nat) (K:List D->List Nat->List Nat->Prop),caO sto k l us ls K->∃ l' us' ls',K l' us' ls'
 | [],us,ls,K,h=>⟨[],us,ls,by simpa [caO] using h⟩
 | d :: l,us,ls,K,h=>by
   simp only [caO] at h;split at h
   ·split at h
    ·split at h
     ·exact h.elim
     ·split at h
      ·obtain ⟨l',us',ls',h⟩:=caO_ex l _ _ _ h;exact ⟨_,_,_,h⟩
      ·exact h.elim
    ·obtain ⟨_,_,h⟩:=leD_ex _ _ _ _ h;obtain ⟨l',us',ls',h⟩:=caO_ex l _ _ _ h;exact ⟨_,_,_,h⟩
   ·obtain ⟨_,_,h⟩:=leD_ex _ _ _ _ h;obtain ⟨l',us',ls',h⟩:=caO_ex l _ _ _ h;exact ⟨_,_,_,h⟩
theorem caO_ok {Pc:Program} {c:Cx Pc} {M:Mi} {sto:Nat->Box} {k:Nat} (HM:Mem c M sto):∀ (l:List D) (vs:List Value) (us ls:List Nat) (K:List D->List Nat->List Nat->Prop),RdT M false l vs->caO sto k l us ls K ->
 ∃ l' us' ls' F,K l' us' ls'/\Gi M sto us us' F/\(∀ n ∈ ls,n ∈ ls')/\(∀ x ∈ ioV l' vs,x=M.hv k) /\
   ∀ S',(∀ b,M.S b->S' b)->(∀ n ∈ ls',∀ b,sto n≠.dead->M.O n b->S' b)->OdT (MiS S' M.h) l' vs F
 | [],[],us,ls,K,_,h=>⟨[],us,ls,[],by simpa [caO] using h,.nil,fun _ h=>h,by simp [ioV],fun _ _ _=>by simp [OdT]⟩
 | d :: l,v :: vs,us,ls,K,hv,h=>by
   simp only [RdT] at hv
   have lend:(leD sto 6 d ls fun d ls=>caO sto k l us ls fun l us ls=>K (d :: l) us ls)->∃ l' us' ls' F,K l' us' ls'/\Gi M sto us us' F/\(∀ n ∈ ls,n ∈ ls')/\(∀ x ∈ ioV l' (v :: vs),x=M.hv k) /\
    ∀ S',(∀ b,M.S b->S' b)->(∀ n ∈ ls',∀ b,sto n≠.dead->M.O n b->S' b)->OdT (MiS S' M.h) l' (v :: vs) F:=fun h=>by
    obtain ⟨d',l1,h,s1,r1⟩:=leD_ok HM 6 d v ls _ hv.1 h;obtain ⟨l',us',ls',F,h,g,s2,io,r2⟩:=caO_ok HM l vs us l1 _ hv.2 h
    have hio:ioV (d' :: l') (v :: vs)=ioV l' vs:=by
     have hr:=r1 (fun _=>True) (fun _ _=>trivial) (fun _ _ _ _ _=>trivial)
     cases d'<;>simp only [ioV]<;>(simp [Rd] at hr)
    refine ⟨_,us',ls',F,h,g,fun n hn=>s2 n (s1 n hn),by rw [hio];exact io,fun S' e1 e2=>?_⟩;simp only [OdT];exact ⟨[],F,rfl,Od.of_rd _ _ (r1.mono s2 S' e1 e2),r2 S' e1 e2⟩
   have give:∀ e sz n f,d = .own k->(memN k us=false)->BoxOK M k (.arr e sz n f)->sto k≠.dead->(caO sto k l (k :: us) ls fun l us ls=>K (.foar e sz n f :: l) us ls) ->
    ∃ l' us' ls' F,K l' us' ls'/\Gi M sto us us' F/\(∀ n ∈ ls,n ∈ ls')/\(∀ x ∈ ioV l' (v :: vs),x=M.hv k) /\
    ∀ S',(∀ b,M.S b->S' b)->(∀ n ∈ ls',∀ b,sto n≠.dead->M.O n b->S' b)->OdT (MiS S' M.h) l' (v :: vs) F:=fun e sz n f hd hmem hbx hlive hq=>by
    clear h;subst hd;have hv0:=hv.1;simp only [Rd] at hv0;obtain ⟨_,hkn,rfl,_⟩:=hv0
    have hmem:k ∉ us:=fun h=>by rw [memN_iff.2 h] at hmem;cases hmem
    obtain ⟨xs,o1,o2,o3,o4⟩:=hbx;have g1:Gi M sto us (k :: us) (M.hv k).ownBlock.toList:=⟨by cases (M.hv k).ownBlock<;>simp,fun n hn=>List.mem_cons_of_mem _ hn,fun b hb=>⟨k,by simp,hmem,hlive,.inl (by rw [o2];simpa using hb)⟩⟩;obtain ⟨l',us',ls',F,h,g,s2,io,r2⟩:=caO_ok HM l vs (k :: us) ls _ hv.2 hq;refine ⟨_,us',ls',(M.hv k).ownBlock.toList ++ F,h,g1.append HM g,s2,fun x hx=>?_,fun S' e1 e2=>?_⟩
    ·simp only [ioV,List.mem_cons] at hx
     rcases hx with rfl | hx
     ·rfl
     ·exact io x hx
    ·simp only [OdT];refine ⟨_,F,rfl,?_,r2 S' e1 e2⟩;simp only [Od];exact ⟨⟨xs,o1,fun i hi=>RdL.mono (M:=M) (M':=MiS S' M.h) ⟨e1,fun _ _=>rfl,by simp,by simp,by simp,by simp⟩ _ _ (o3 i hi),o4⟩,trivial⟩
   simp only [caO] at h;split at h
   ·rename_i m;split at h
    ·rename_i hm;have hm:=nbq hm;subst hm
     have hkn:m<M.nx:=by have:=hv.1;simp only [Rd] at this;exact this.2.1
     have hbx:=HM.box m hkn;split at h
     ·exact h.elim
     rename_i hmem;split at h
     ·rename_i e sz n f hs;rw [hs] at hbx;exact give e sz n f rfl hmem hbx (by rw [hs];simp) h
     ·exact h.elim
    ·exact lend h
   ·exact lend h
 | [],_ :: _,_,_,_,h,_=>by simp [RdT] at h
 | _ :: _,[],_,_,_,h,_=>by simp [RdT] at h
def isLst (b:Box) (K:Prop):Prop:=match b with
 | .arr ..=>K| _=>False
theorem CallOK.ioL {P:Program} {g:FuncId} {args:List D} {st:St} {K:D->St->Prop} (k:Nat)
 (h:isLst (st.sto k) (caO st.sto k args [] [] fun ds us ls=>disjM us ls (Met P g ds fun r outs =>
   lentOK2 ls r outs (st.on fun e_ s_ k_=>adD r (killN s_ us) k_ fun d s n=>outL outs s n k fun s n=>K d ⟨e_,s,n⟩)))):CallOK P g args st K:=by
 have hcs:((st.sto k).isFam=false/\st.sto k≠.dead/\∀ M:Mi,BoxOK M k (st.sto k)->M.ρ k=(M.hv k).ownBlock)/\caO st.sto k args [] [] fun ds us ls=>disjM us ls (Met P g ds fun r outs =>
  lentOK2 ls r outs (st.on fun e_ s_ k_=>adD r (killN s_ us) k_ fun d s n=>outL outs s n k fun s n=>K d ⟨e_,s,n⟩)):=by
  unfold isLst at h;split at h
  ·rename_i hs;exact ⟨⟨by rw [hs];rfl,by rw [hs];simp,fun M hb=>by rw [hs] at hb;exact hb.choose_spec.2.1⟩,h⟩
  ·exact h.elim
 clear h;obtain ⟨⟨hkf,hkl,hkρ⟩,h⟩:=hcs
 have hfn:FnOK P g:=by
  obtain ⟨ds,us,ls,hd⟩:=caO_ex _ _ _ _ h;obtain ⟨_,R,hc,_⟩:=disjM_of hd;exact hc.fn
 refine ⟨hfn,fun c nt M a w vs R hv=>?_⟩;have hkn:=R.mem.lt hkl;have hρk:M.ρ k=(M.hv k).ownBlock:=hkρ M (R.mem.box k hkn);obtain ⟨ds,us,ls,F,hdm,G,_,io,hod0⟩:=caO_ok R.mem args vs.toList [] [] _ hv h;obtain ⟨hdis,Rel,hct,hk⟩:=disjM_of hdm
 have hsz:M.h.size=w.heap.size:=by rw [R.h]
 have hargs:OdT (MiS (fun b=>M.S b\/∃ n,n ∈ ls/\st.sto n≠.dead/\M.O n b) w.heap) ds vs.toList F:=by
  rw [<-R.h];exact hod0 _ (fun b hb=>.inl hb) (fun n hn b hd hb=>.inr ⟨n,hn,hd,hb⟩)
 have hFS:∀ b ∈ F,¬ M.S b:=fun b hb=>by
  obtain ⟨n,_,_,n3,n4⟩:=G.at_ b hb;exact R.mem.sepO n b n3 n4
 have hFl:∀ b ∈ F,∀ n,killN st.sto us n≠.dead->¬ M.O n b:=fun b hb n hn he=>by
  obtain ⟨m,m1,_,m3,m4⟩:=G.at_ b hb;obtain ⟨h1,h2⟩:=killN_live hn;have:=R.mem.injO n m b h1 m3 he m4;subst this;exact h2 m1
 have hFf:∀ b ∈ F,c.w0.heap.size<=b\/c.W0 b:=fun b hb=>by
  obtain ⟨n,_,_,n3,n4⟩:=G.at_ b hb;exact R.mem.frO n b n3 n4
 have hFlt:∀ b ∈ F,b<w.heap.size:=fun b hb=>by
  obtain ⟨n,_,_,n3,n4⟩:=G.at_ b hb;rw [<-hsz];exact R.mem.bltO n3 n4
 refine (hct.ok w _ vs F (fun b hb=>?_) hargs G.nd ⟨fun b hb hs=>?_,R.laid hFf⟩).mono ?_
 ·rcases hb with hb | ⟨n,_,hd,hb⟩
  ·rw [<-hsz];exact R.mem.Slt b hb
  ·rw [<-hsz];exact R.mem.bltO hd hb
 ·rcases hs with hs | ⟨n,hn,hd,hs⟩
  ·exact hFS b hb hs
  ·obtain ⟨m,m1,_,m3,m4⟩:=G.at_ b hb;have:=R.mem.injO n m b hd m3 hs m4;subst this;exact disjN_of hdis n m1 hn
 ·rintro e w' ⟨v,r,outs,S1,F',rfl,hR,hB,hod⟩
  obtain ⟨hl,hk1⟩:=lentOK2_of (hk r outs hR)
  have hk1:adD r (killN st.sto us) st.nxt fun d s n=>outL outs s n k fun s n=>K d ⟨st.env,s,n⟩:=hk1
  simp only [OdT] at hod;obtain ⟨F1,F2,rfl,hod1,hod2⟩:=hod
  obtain ⟨H1,L1⟩:=(R.mem.killN us).goOn (fun b=>M.S b\/(S1 b/\(w.heap.size<=b\/b ∈ F))) w'.heap F (by rw [hsz];exact hB.size) (fun b hb hF=>by rw [R.h];exact hB.old b (by omega) hF) hFS hFl hFf (fun b hb=>by rw [hsz] ;exact hFlt b hb)
   (fun b hb=>.inl hb) (fun b hb=>by
     rcases hb with h | ⟨h1,h2⟩
     ·exact .inl h
     ·rcases hB.Snew b h1 with h | h | h
      ·rcases h with h | ⟨n,hn,hd,h⟩
       ·exact .inl h
       ·exfalso
        rcases h2 with h2 | h2
        ·exact absurd (R.mem.bltO hd h) (by omega)
        ·obtain ⟨m,m1,_,m3,m4⟩:=G.at_ b h2;have:=R.mem.injO n m b hd m3 h m4;subst this;exact disjN_of hdis n m1 hn
      ·exact .inr (.inl ⟨by omega,h.2⟩)
      ·exact .inr (.inr h))
  have hSS:ls = []->∀ b,S1 b->M.S b\/(S1 b/\(w.heap.size<=b\/b ∈ F)):=fun hl b hb=>by
   rcases hB.Snew b hb with h | h | h
   ·rcases h with h | ⟨n,hn,_⟩
    ·exact .inl h
    ·subst hl;cases hn
   ·exact .inr ⟨hb,.inl h.1⟩
   ·exact .inr ⟨hb,.inr h⟩
  have hfree:Free c { M with S:=fun b=>M.S b\/(S1 b/\(w.heap.size<=b\/b ∈ F)),h:=w'.heap } (Sx.killN st.sto us) (F1 ++ F2):=by
   refine ⟨hB.nd,fun b hb hs=>?_,fun b hb n hd he=>?_,fun b hb=>?_⟩
   ·rcases hs with h | h
    ·rcases hB.Fnew b hb with hF | hF
     ·exact hFS b hF h
     ·exact absurd (R.mem.Slt b h) (by omega)
    ·exact hB.FS b hb h.1
   ·rcases hB.Fnew b hb with hF | hF
    ·exact hFl b hF n hd he
    ·exact absurd ((R.mem.killN us).bltO hd he) (by omega)
   ·rcases hB.Fnew b hb with hF | hF
    ·exact hFf b hF
    ·exact .inl (Nat.le_trans R.mem.size (by omega))
  have hod1' : Od { M with S:=fun b=>M.S b\/(S1 b/\(w.heap.size<=b\/b ∈ F)),h:=w'.heap } r v F1:=by
   rcases hl with hl | hl
   ·exact Od.mono (M:=MiS S1 w'.heap) (M':={ M with S:=fun b=>M.S b\/(S1 b/\(w.heap.size<=b\/b ∈ F)),h:=w'.heap }) (hSS hl) (fun _ _=>rfl) r v F1 hod1 (fun _ _=>rfl)
   ·exact Od.noSh (M:=MiS S1 w'.heap) r v F1 hl.1 hod1 (fun _ _=>rfl)
  have hod2' : OdT { M with S:=fun b=>M.S b\/(S1 b/\(w.heap.size<=b\/b ∈ F)),h:=w'.heap } outs (ioV ds vs.toList) F2:=by
   rcases hl with hl | hl
   ·exact OdT.mono (M:=MiS S1 w'.heap) (M':={ M with S:=fun b=>M.S b\/(S1 b/\(w.heap.size<=b\/b ∈ F)),h:=w'.heap }) (hSS hl) (fun _ _=>rfl) outs _ F2 hod2 (fun _ _=>rfl)
   ·exact OdT.noSh (M:=MiS S1 w'.heap) outs _ F2 hl.2 hod2 (fun _ _=>rfl)
  rw [<-R.nx] at hk1;obtain ⟨d',s1,M1,hk2,A,hr⟩:=adD_ok r v F1 { M with S:=fun b=>M.S b\/(S1 b/\(w.heap.size<=b\/b ∈ F)),h:=w'.heap } (Sx.killN st.sto us) _ H1 hod1' hfree.left hk1;have hf2:=hfree.right A;clear hk hk1;unfold outL at hk2;split at hk2
  case h_2=>exact hk2.elim
  rename_i e2 sz2 m2 f2
  obtain ⟨x,hx⟩:∃ x,ioV ds vs.toList = [x]:=by
   cases hio:ioV ds vs.toList with
   | nil=>rw [hio] at hod2';simp [OdT] at hod2'
   | cons x t=>cases t with
     | nil=>exact ⟨x,rfl⟩
     | cons y t=>rw [hio] at hod2';simp [OdT] at hod2'
  have hxv:=io x (by rw [hx];simp);rw [hx] at hod2';simp only [OdT] at hod2';obtain ⟨G1,G2,rfl,hodf,rfl⟩:=hod2';rw [List.append_nil] at hf2;simp only [Od] at hodf;obtain ⟨⟨xs,q1,q2,q3⟩,rfl⟩:=hodf;subst hxv
  have L2:M.Le M1 false:=⟨fun b hb=>A.le.S b (L1.S b hb),fun b hb=>(A.le.h b (L1.S b hb)).trans (L1.h b hb),fun _=>Nat.le_trans (L1.nx rfl) (A.le.nx rfl),
   fun _ n hn=>(A.le.ρ rfl n hn).trans (L1.ρ rfl n hn),fun _ n hn=>(A.le.hv rfl n hn).trans (L1.hv rfl n hn),fun _ n hn=>(A.le.X rfl n hn).trans (L1.X rfl n hn)⟩
  have hρ1:M1.ρ k=(M.hv k).ownBlock:=(L2.ρ rfl k hkn).trans hρk;have hv1:M1.hv k=M.hv k:=L2.hv rfl k hkn
  have hm3:=A.mem.reviveO (n:=k) (Nat.lt_of_lt_of_le hkn (L2.nx rfl)) (.arr e2 sz2 m2 f2)
   ⟨xs,by rw [hv1,A.h];exact q1,by rw [hρ1,hv1],fun i hi=>RdL.mono (M:={ M with S:=fun b=>M.S b\/(S1 b/\(w.heap.size<=b\/b ∈ F)),h:=w'.heap }) (A.le.im) _ _ (q2 i hi),q3⟩
   (fun b hb=>hf2.S b (by rw [hρ1] at hb;simpa using hb)) (fun b hb m hm=>hf2.occ b (by rw [hρ1] at hb;simpa using hb) m hm) (fun b hb=>hf2.fr b (by rw [hρ1] at hb;simpa using hb))
   (fun b hb=>R.mem.non k hkl hkf b (by rw [<-L2.X rfl k hkn];exact hb))
  exact ⟨d',_,M1,v,rfl,hk2,R.go L2 hm3 A.h rfl hB.os hB.tape hB.output,hr⟩
def fstO:List D->Nat
 | []=>0| .own k :: _=>k| _ :: l=>fstO l
theorem CallOK.ioL1 {P:Program} {g:FuncId} {args:List D} {st:St} {K:D->St->Prop}
 (h:isLst (st.sto (fstO args)) (caO st.sto (fstO args) args [] [] fun ds us ls=>disjM us ls (Met P g ds fun r outs =>
   lentOK2 ls r outs (st.on fun e_ s_ k_=>adD r (killN s_ us) k_ fun d s n=>outL outs s n (fstO args) fun s n=>K d ⟨e_,s,n⟩)))):CallOK P g args st K:=.ioL _ h
def caM (sto:Nat->Box) (k:Nat):List D->List Nat->List Nat->(List D->List Nat->List Nat->Prop)->Prop
 | [],us,ls,K=>K [] us ls
 | d :: l,us,ls,K =>
   match d with
   | .mref m=>match Nat.beq m k with
     | true=>match memN k us with
       | true=>False
       | false=>match sto k with
         | .mpd sk kn l0=>caM sto k l (k :: us) ls fun l us ls=>K (.fmapd sk kn l0.length (fun i=>(l0.getD i ([],.any)).1) (fun i=>(l0.getD i ([],.any)).2) :: l) us ls
         | _=>False
     | false=>leD sto 6 d ls fun d ls=>caM sto k l us ls fun l us ls=>K (d :: l) us ls
   | d=>leD sto 6 d ls fun d ls=>caM sto k l us ls fun l us ls=>K (d :: l) us ls
def outM (outs:List D) (s:Nat->Box) (n k:Nat) (K:(Nat->Box)->Nat->Prop):Prop :=
 match outs with
 | [.fmapd sk kn m ks vs]=>K (upd s k (.mpd sk kn (mkM m ks vs))) n| _=>False
theorem caM_ex {sto:Nat->Box} {k:Nat}:∀ (l:List D) (us ls:List Nat) (K:List D->List Nat->List Nat->Prop),caM sto k l us ls K->∃ l' us' ls',K l' us' ls'
 | [],us,ls,K,h=>⟨[],us,ls,by simpa [caM] using h⟩
 | d :: l,us,ls,K,h=>by
   simp only [caM] at h;split at h
   ·split at h
    ·split at h
     ·exact h.elim
     ·split at h
      ·obtain ⟨l',us',ls',h⟩:=caM_ex l _ _ _ h;exact ⟨_,_,_,h⟩
      ·exact h.elim
    ·obtain ⟨_,_,h⟩:=leD_ex _ _ _ _ h;obtain ⟨l',us',ls',h⟩:=caM_ex l _ _ _ h;exact ⟨_,_,_,h⟩
   ·obtain ⟨_,_,h⟩:=leD_ex _ _ _ _ h;obtain ⟨l',us',ls',h⟩:=caM_ex l _ _ _ h;exact ⟨_,_,_,h⟩
theorem caM_ok {Pc:Program} {c:Cx Pc} {M:Mi} {sto:Nat->Box} {k:Nat} (HM:Mem c M sto):∀ (l:List D) (vs:List Value) (us ls:List Nat) (K:List D->List Nat->List Nat->Prop),RdT M false l vs->caM sto k l us ls K ->
 ∃ l' us' ls' F,K l' us' ls'/\Gi M sto us us' F/\(∀ n ∈ ls,n ∈ ls')/\(∀ x ∈ ioV l' vs,x = .map (M.ρ k)) /\
   ∀ S',(∀ b,M.S b->S' b)->(∀ n ∈ ls',∀ b,sto n≠.dead->M.O n b->S' b)->OdT (MiS S' M.h) l' vs F
 | [],[],us,ls,K,_,h=>⟨[],us,ls,[],by simpa [caM] using h,.nil,fun _ h=>h,by simp [ioV],fun _ _ _=>by simp [OdT]⟩
 | d :: l,v :: vs,us,ls,K,hv,h=>by
   simp only [RdT] at hv
   have lend:(leD sto 6 d ls fun d ls=>caM sto k l us ls fun l us ls=>K (d :: l) us ls)->∃ l' us' ls' F,K l' us' ls'/\Gi M sto us us' F/\(∀ n ∈ ls,n ∈ ls')/\(∀ x ∈ ioV l' (v :: vs),x = .map (M.ρ k)) /\
    ∀ S',(∀ b,M.S b->S' b)->(∀ n ∈ ls',∀ b,sto n≠.dead->M.O n b->S' b)->OdT (MiS S' M.h) l' (v :: vs) F:=fun h=>by
    obtain ⟨d',l1,h,s1,r1⟩:=leD_ok HM 6 d v ls _ hv.1 h;obtain ⟨l',us',ls',F,h,g,s2,io,r2⟩:=caM_ok HM l vs us l1 _ hv.2 h
    have hio:ioV (d' :: l') (v :: vs)=ioV l' vs:=by
     have hr:=r1 (fun _=>True) (fun _ _=>trivial) (fun _ _ _ _ _=>trivial)
     cases d'<;>simp only [ioV]<;>(simp [Rd] at hr)
    refine ⟨_,us',ls',F,h,g,fun n hn=>s2 n (s1 n hn),by rw [hio];exact io,fun S' e1 e2=>?_⟩;simp only [OdT];exact ⟨[],F,rfl,Od.of_rd _ _ (r1.mono s2 S' e1 e2),r2 S' e1 e2⟩
   have give:∀ sk kn l0,d = .mref k->(memN k us=false)->BoxOK M k (.mpd sk kn l0)->sto k≠.dead->(caM sto k l (k :: us) ls fun l us ls=>K (.fmapd sk kn l0.length (fun i=>(l0.getD i ([],.any)).1) (fun i=>(l0.getD i ([],.any)).2) :: l) us ls) ->
    ∃ l' us' ls' F,K l' us' ls'/\Gi M sto us us' F/\(∀ n ∈ ls,n ∈ ls')/\(∀ x ∈ ioV l' (v :: vs),x = .map (M.ρ k)) /\
    ∀ S',(∀ b,M.S b->S' b)->(∀ n ∈ ls',∀ b,sto n≠.dead->M.O n b->S' b)->OdT (MiS S' M.h) l' (v :: vs) F:=fun sk kn l0 hd hmem hbx hlive hq=>by
    clear h;subst hd;have hv0:=hv.1;simp only [Rd] at hv0;obtain ⟨_,hkn,b,hρ,rfl⟩:=hv0
    have hmem:k ∉ us:=fun h=>by rw [memN_iff.2 h] at hmem;cases hmem
    obtain ⟨b',o1,o2⟩:=hbx;rw [hρ] at o1;cases o1;have g1:Gi M sto us (k :: us) [b]:=⟨by simp,fun n hn=>List.mem_cons_of_mem _ hn,fun x hx=>⟨k,by simp,hmem,hlive,.inl (by rw [List.mem_singleton.1 hx];exact hρ)⟩⟩;obtain ⟨l',us',ls',F,h,g,s2,io,r2⟩:=caM_ok HM l vs (k :: us) ls _ hv.2 hq;refine ⟨_,us',ls',[b] ++ F,h,g1.append HM g,s2,fun x hx=>?_,fun S' e1 e2=>?_⟩
    ·simp only [ioV,List.mem_cons] at hx
     rcases hx with rfl | hx
     ·rw [hρ]
     ·exact io x hx
    ·simp only [OdT];refine ⟨_,F,rfl,?_,r2 S' e1 e2⟩;simp only [Od];exact ⟨b,rfl,by rw [mkM_self];exact o2.mono ⟨e1,fun _ _=>rfl,by simp,by simp,by simp,by simp⟩,rfl⟩
   simp only [caM] at h;split at h
   ·rename_i m;split at h
    ·rename_i hm;have hm:=nbq hm;subst hm
     have hkn:m<M.nx:=by have:=hv.1;simp only [Rd] at this;exact this.2.1
     have hbx:=HM.box m hkn;split at h
     ·exact h.elim
     rename_i hmem;split at h
     ·rename_i sk kn l0 hs;rw [hs] at hbx;exact give sk kn l0 rfl hmem hbx (by rw [hs];simp) h
     ·exact h.elim
    ·exact lend h
   ·exact lend h
 | [],_ :: _,_,_,_,h,_=>by simp [RdT] at h
 | _ :: _,[],_,_,_,h,_=>by simp [RdT] at h
def isMp (b:Box) (K:Prop):Prop:=match b with
 | .mpd ..=>K| _=>False
theorem CallOK.ioM {P:Program} {g:FuncId} {args:List D} {st:St} {K:D->St->Prop} (k:Nat)
 (h:isMp (st.sto k) (caM st.sto k args [] [] fun ds us ls=>disjM us ls (Met P g ds fun r outs =>
   lentOK2 ls r outs (st.on fun e_ s_ k_=>adD r (killN s_ us) k_ fun d s n=>outM outs s n k fun s n=>K d ⟨e_,s,n⟩)))):CallOK P g args st K:=by
 have hcs:((st.sto k).isFam=false/\st.sto k≠.dead/\∀ M:Mi,BoxOK M k (st.sto k)->∃ b,M.ρ k=some b)/\caM st.sto k args [] [] fun ds us ls=>disjM us ls (Met P g ds fun r outs =>
  lentOK2 ls r outs (st.on fun e_ s_ k_=>adD r (killN s_ us) k_ fun d s n=>outM outs s n k fun s n=>K d ⟨e_,s,n⟩)):=by
  unfold isMp at h;split at h
  ·rename_i hs;exact ⟨⟨by rw [hs];rfl,by rw [hs];simp,fun M hb=>by rw [hs] at hb;obtain ⟨b,h,_⟩:=hb;exact ⟨b,h⟩⟩,h⟩
  ·exact h.elim
 clear h;obtain ⟨⟨hkf,hkl,hkρ⟩,h⟩:=hcs
 have hfn:FnOK P g:=by
  obtain ⟨ds,us,ls,hd⟩:=caM_ex _ _ _ _ h;obtain ⟨_,R,hc,_⟩:=disjM_of hd;exact hc.fn
 refine ⟨hfn,fun c nt M a w vs R hv=>?_⟩;have hkn:=R.mem.lt hkl;obtain ⟨bk,hρk⟩:=hkρ M (R.mem.box k hkn);obtain ⟨ds,us,ls,F,hdm,G,_,io,hod0⟩:=caM_ok R.mem args vs.toList [] [] _ hv h;obtain ⟨hdis,Rel,hct,hk⟩:=disjM_of hdm
 have hsz:M.h.size=w.heap.size:=by rw [R.h]
 have hargs:OdT (MiS (fun b=>M.S b\/∃ n,n ∈ ls/\st.sto n≠.dead/\M.O n b) w.heap) ds vs.toList F:=by
  rw [<-R.h];exact hod0 _ (fun b hb=>.inl hb) (fun n hn b hd hb=>.inr ⟨n,hn,hd,hb⟩)
 have hFS:∀ b ∈ F,¬ M.S b:=fun b hb=>by
  obtain ⟨n,_,_,n3,n4⟩:=G.at_ b hb;exact R.mem.sepO n b n3 n4
 have hFl:∀ b ∈ F,∀ n,killN st.sto us n≠.dead->¬ M.O n b:=fun b hb n hn he=>by
  obtain ⟨m,m1,_,m3,m4⟩:=G.at_ b hb;obtain ⟨h1,h2⟩:=killN_live hn;have:=R.mem.injO n m b h1 m3 he m4;subst this;exact h2 m1
 have hFf:∀ b ∈ F,c.w0.heap.size<=b\/c.W0 b:=fun b hb=>by
  obtain ⟨n,_,_,n3,n4⟩:=G.at_ b hb;exact R.mem.frO n b n3 n4
 have hFlt:∀ b ∈ F,b<w.heap.size:=fun b hb=>by
  obtain ⟨n,_,_,n3,n4⟩:=G.at_ b hb;rw [<-hsz];exact R.mem.bltO n3 n4
 refine (hct.ok w _ vs F (fun b hb=>?_) hargs G.nd ⟨fun b hb hs=>?_,R.laid hFf⟩).mono ?_
 ·rcases hb with hb | ⟨n,_,hd,hb⟩
  ·rw [<-hsz];exact R.mem.Slt b hb
  ·rw [<-hsz];exact R.mem.bltO hd hb
 ·rcases hs with hs | ⟨n,hn,hd,hs⟩
  ·exact hFS b hb hs
  ·obtain ⟨m,m1,_,m3,m4⟩:=G.at_ b hb;have:=R.mem.injO n m b hd m3 hs m4;subst this;exact disjN_of hdis n m1 hn
 ·rintro e w' ⟨v,r,outs,S1,F',rfl,hR,hB,hod⟩
  obtain ⟨hl,hk1⟩:=lentOK2_of (hk r outs hR)
  have hk1:adD r (killN st.sto us) st.nxt fun d s n=>outM outs s n k fun s n=>K d ⟨st.env,s,n⟩:=hk1
  simp only [OdT] at hod;obtain ⟨F1,F2,rfl,hod1,hod2⟩:=hod
  obtain ⟨H1,L1⟩:=(R.mem.killN us).goOn (fun b=>M.S b\/(S1 b/\(w.heap.size<=b\/b ∈ F))) w'.heap F (by rw [hsz];exact hB.size) (fun b hb hF=>by rw [R.h];exact hB.old b (by omega) hF) hFS hFl hFf (fun b hb=>by rw [hsz] ;exact hFlt b hb)
   (fun b hb=>.inl hb) (fun b hb=>by
     rcases hb with h | ⟨h1,h2⟩
     ·exact .inl h
     ·rcases hB.Snew b h1 with h | h | h
      ·rcases h with h | ⟨n,hn,hd,h⟩
       ·exact .inl h
       ·exfalso
        rcases h2 with h2 | h2
        ·exact absurd (R.mem.bltO hd h) (by omega)
        ·obtain ⟨m,m1,_,m3,m4⟩:=G.at_ b h2;have:=R.mem.injO n m b hd m3 h m4;subst this;exact disjN_of hdis n m1 hn
      ·exact .inr (.inl ⟨by omega,h.2⟩)
      ·exact .inr (.inr h))
  have hSS:ls = []->∀ b,S1 b->M.S b\/(S1 b/\(w.heap.size<=b\/b ∈ F)):=fun hl b hb=>by
   rcases hB.Snew b hb with h | h | h
   ·rcases h with h | ⟨n,hn,_⟩
    ·exact .inl h
    ·subst hl;cases hn
   ·exact .inr ⟨hb,.inl h.1⟩
   ·exact .inr ⟨hb,.inr h⟩
  have hfree:Free c { M with S:=fun b=>M.S b\/(S1 b/\(w.heap.size<=b\/b ∈ F)),h:=w'.heap } (Sx.killN st.sto us) (F1 ++ F2):=by
   refine ⟨hB.nd,fun b hb hs=>?_,fun b hb n hd he=>?_,fun b hb=>?_⟩
   ·rcases hs with h | h
    ·rcases hB.Fnew b hb with hF | hF
     ·exact hFS b hF h
     ·exact absurd (R.mem.Slt b h) (by omega)
    ·exact hB.FS b hb h.1
   ·rcases hB.Fnew b hb with hF | hF
    ·exact hFl b hF n hd he
    ·exact absurd ((R.mem.killN us).bltO hd he) (by omega)
   ·rcases hB.Fnew b hb with hF | hF
    ·exact hFf b hF
    ·exact .inl (Nat.le_trans R.mem.size (by omega))
  have hod1' : Od { M with S:=fun b=>M.S b\/(S1 b/\(w.heap.size<=b\/b ∈ F)),h:=w'.heap } r v F1:=by
   rcases hl with hl | hl
   ·exact Od.mono (M:=MiS S1 w'.heap) (M':={ M with S:=fun b=>M.S b\/(S1 b/\(w.heap.size<=b\/b ∈ F)),h:=w'.heap }) (hSS hl) (fun _ _=>rfl) r v F1 hod1 (fun _ _=>rfl)
   ·exact Od.noSh (M:=MiS S1 w'.heap) r v F1 hl.1 hod1 (fun _ _=>rfl)
  have hod2' : OdT { M with S:=fun b=>M.S b\/(S1 b/\(w.heap.size<=b\/b ∈ F)),h:=w'.heap } outs (ioV ds vs.toList) F2:=by
   rcases hl with hl | hl
   ·exact OdT.mono (M:=MiS S1 w'.heap) (M':={ M with S:=fun b=>M.S b\/(S1 b/\(w.heap.size<=b\/b ∈ F)),h:=w'.heap }) (hSS hl) (fun _ _=>rfl) outs _ F2 hod2 (fun _ _=>rfl)
   ·exact OdT.noSh (M:=MiS S1 w'.heap) outs _ F2 hl.2 hod2 (fun _ _=>rfl)
  rw [<-R.nx] at hk1;obtain ⟨d',s1,M1,hk2,A,hr⟩:=adD_ok r v F1 { M with S:=fun b=>M.S b\/(S1 b/\(w.heap.size<=b\/b ∈ F)),h:=w'.heap } (Sx.killN st.sto us) _ H1 hod1' hfree.left hk1;have hf2:=hfree.right A;clear hk hk1;unfold outM at hk2;split at hk2
  case h_2=>exact hk2.elim
  rename_i sk2 kn2 m2 ks2 vs2
  obtain ⟨x,hx⟩:∃ x,ioV ds vs.toList = [x]:=by
   cases hio:ioV ds vs.toList with
   | nil=>rw [hio] at hod2';simp [OdT] at hod2'
   | cons x t=>cases t with
     | nil=>exact ⟨x,rfl⟩
     | cons y t=>rw [hio] at hod2';simp [OdT] at hod2'
  have hxv:=io x (by rw [hx];simp);rw [hx] at hod2';simp only [OdT] at hod2';obtain ⟨G1,G2,rfl,hodf,rfl⟩:=hod2';rw [List.append_nil] at hf2;simp only [Od] at hodf;obtain ⟨b2,he2,q2,rfl⟩:=hodf;rw [hxv,hρk] at he2
  obtain rfl:bk=b2:=by simpa using he2
  have L2:M.Le M1 false:=⟨fun b hb=>A.le.S b (L1.S b hb),fun b hb=>(A.le.h b (L1.S b hb)).trans (L1.h b hb),fun _=>Nat.le_trans (L1.nx rfl) (A.le.nx rfl),
   fun _ n hn=>(A.le.ρ rfl n hn).trans (L1.ρ rfl n hn),fun _ n hn=>(A.le.hv rfl n hn).trans (L1.hv rfl n hn),fun _ n hn=>(A.le.X rfl n hn).trans (L1.X rfl n hn)⟩
  have hρ1:M1.ρ k=some bk:=(L2.ρ rfl k hkn).trans hρk
  have hm3:=A.mem.reviveO (n:=k) (Nat.lt_of_lt_of_le hkn (L2.nx rfl)) (.mpd sk2 kn2 (mkM m2 ks2 vs2))
   ⟨bk,hρ1,by rw [A.h];exact q2.mono (M:={ M with S:=fun b=>M.S b\/(S1 b/\(w.heap.size<=b\/b ∈ F)),h:=w'.heap }) A.le.im⟩
   (fun b hb=>hf2.S b (by rw [hρ1] at hb;cases hb;simp)) (fun b hb m hm=>hf2.occ b (by rw [hρ1] at hb;cases hb;simp) m hm) (fun b hb=>hf2.fr b (by rw [hρ1] at hb;cases hb;simp))
   (fun b hb=>R.mem.non k hkl hkf b (by rw [<-L2.X rfl k hkn];exact hb))
  exact ⟨d',_,M1,v,rfl,hk2,R.go L2 hm3 A.h rfl hB.os hB.tape hB.output,hr⟩
def fstM:List D->Nat
 | []=>0| .mref k :: _=>k| _ :: l=>fstM l
theorem CallOK.ioM1 {P:Program} {g:FuncId} {args:List D} {st:St} {K:D->St->Prop}
 (h:isMp (st.sto (fstM args)) (caM st.sto (fstM args) args [] [] fun ds us ls=>disjM us ls (Met P g ds fun r outs =>
   lentOK2 ls r outs (st.on fun e_ s_ k_=>adD r (killN s_ us) k_ fun d s n=>outM outs s n (fstM args) fun s n=>K d ⟨e_,s,n⟩)))):CallOK P g args st K:=.ioM _ h
end Sx
namespace Sx
open Go
open Go.Shelf Go.RowKit Go.Lib Go.Sort
section
variable {α:Type} [Inhabited α]
def encV (enc:α->List Int) (x:α):List Value:=(enc x).map fun n=>.int .i64 n
def encD (enc:α->List Int) (x:α):List D:=(enc x).map fun n=>.int .i64 n
theorem enc_rd (M:Mi) (im:Bool):∀ (l:List Int),RdL M im (l.map fun n=>D.int .i64 n) (l.map fun n=>Value.int .i64 n)
 | []=>by simp [RdL]
 | n :: l=>by simp only [List.map_cons,RdL,Rd];exact ⟨rfl,trivial,enc_rd M im l⟩
theorem enc_at {β:Type} (g:Int->β) (q:List Int) (j:Nat) (h:j<q.length):(q.map g)[j]? = some (g (q.getD j 0)):=by
 rw [List.getElem?_map,gDe,List.getElem?_eq_getElem h];rfl
theorem enc_at! (q:List Int) (j:Nat) (h:j<q.length):(q.map fun n=>Value.int .i64 n)[j]! = .int .i64 (q.getD j 0):=by
 rw [List.getElem!_eq_getElem?_getD,enc_at _ q j h];rfl
theorem flat_getG (enc:α->List Int) (K:Nat) (hK:0<K) (he:∀ x,(enc x).length=K) (z:α) (l:List α) (t:Nat) (h:t<l.length*K):(Sort.flatK (encV enc) K l.toArray)[t]! = .int .i64 ((enc (l.getD (t / K) z)).getD (t % K) 0):=by
 rw [Sort.get_flatK _ _ _ _ (by simpa using h)];have h2:t / K<l.length:=Nat.div_lt_of_lt_mul (by rw [Nat.mul_comm];exact h)
 have e:l.toArray[t / K]! = l.getD (t / K) z:=by
  rw [gDe];simp [h2]
 rw [e]
 have h3:t % K<(enc (l.getD (t / K) z)).length:=by rw [he];exact Nat.mod_lt _ hK
 exact enc_at! _ _ h3
end
section
variable {P:Program} {c:Cx P} {nt:Nt} {M:Mi} {st:St} {a:Act} {w:World}
theorem CallOK.sortG {α:Type} [Inhabited α] (enc:α->List Int) (kc:Nat) (hkc:0<kc) (henc:∀ x,(enc x).length=kc) (z:α) {g cf m:Nat} {f:Nat->List D} {e n:Nat} {K:D->St->Prop} (l l' : List α) (hfn:FnOK P g) (hs:st.sto m = .arr e kc n f) (hn:n=l.length/\∀ i,i<l.length->f i=encD enc (l.getD i z)) (hl:l'.length=l.length)
 (H0:l = []->∀ p cap w,Calls P g #[.slice p 0 cap,.func (.func cf) #[] #[]] w fun e w'=>e = .returned (.tuple #[])/\w' = w)
 (H:l≠[]->∀ blk cap w,Sort.HoldsK (encV enc) kc w blk 0 l.toArray->blk<w.heap.size->Calls P g #[.slice (some ⟨blk,0,none⟩) l.length cap,.func (.func cf) #[] #[]] w fun e w'=>e = .returned (.tuple #[])/\∃ n os,w' = Go.Proofs.sortWorldK (encV enc) kc w blk 0 n l'.toArray os)
 (hK:Step (K (.tup []) ⟨st.env,upd st.sto m (.arr e kc l'.length fun i=>encD enc (l'.getD i z)),st.nxt⟩)):CallOK P g [.own m,.fn cf []] st K:=by
 refine ⟨hfn,fun c nt M a w vs R hv=>?_⟩;obtain ⟨rfl,hf⟩:=hn
 obtain ⟨x,y,rfl⟩:∃ x y,vs = #[x,y]:=by
  match vs,hv with
  | ⟨[x,y]⟩,_=>exact ⟨x,y,rfl⟩| ⟨[]⟩,h=>simp [RdT] at h| ⟨[_]⟩,h=>simp [RdT] at h| ⟨_ :: _ :: _ :: _⟩,h=>simp [RdT] at h
 simp only [RdT,Rd] at hv;obtain ⟨⟨_,hm,rfl,_⟩,⟨cs,rfl,hcs⟩,_⟩:=hv
 have hcs0:cs = #[]:=by
  match cs,hcs with
  | ⟨[]⟩,_=>rfl| ⟨_ :: _⟩,h=>simp [RdL] at h
 subst hcs0;have hb:=R.mem.box m hm;rw [hs] at hb;obtain ⟨xs,⟨o1,o2⟩,o3,o4,o5⟩:=hb
 have hd:st.sto m≠.dead:=by rw [hs];simp
 have hX:(st.sto m).isFam=false:=by rw [hs];rfl
 by_cases hl0:l = []
 ·have hval:∃ p cap,M.hv m = .slice p 0 cap:=by
   rcases o2 with ⟨h,_⟩ | ⟨gg,cap,cur,h,_⟩
   ·exact ⟨none,0,h⟩
   ·exact ⟨_,cap,by rw [h,hl0];rfl⟩
  obtain ⟨p,cap,hval⟩:=hval;rw [hval];refine (H0 hl0 p cap w).mono ?_
  rintro e' w' ⟨rfl,rfl⟩
  have hl'0:l' = []:=List.eq_nil_of_length_eq_zero (by rw [hl,hl0];rfl);subst hl'0;have hst:(⟨st.env,upd st.sto m (.arr e kc ([]:List α).length fun i=>encD enc (([]:List α).getD i z)),st.nxt⟩:St)=⟨st.env,upd st.sto m (.arr e kc 0 fun i=>encD enc (([]:List α).getD i z)),st.nxt⟩:=rfl;subst hl0;refine ⟨_,_,{ M with h:=M.h },.tuple #[],rfl,hK.out,⟨R.h,R.nx,?_,R.env,R.sz,R.defs,R.os,R.tape,R.output⟩,by simp [Rd,RdT]⟩;have hm2:=R.mem;refine ⟨hm2.size,hm2.frame,hm2.Slt,hm2.Sold,fun k hk=>?_,fun k hk=>?_,?_,?_,?_,?_⟩
  ·by_cases e1:k=m
   ·subst e1
    show BoxOK _ _ (upd _ _ _ _)
    rw [upd_self];exact ⟨xs,⟨o1,o2⟩,o3,fun i hi=>absurd hi (Nat.not_lt_zero i),o5⟩
   ·show BoxOK _ _ (upd _ _ _ _)
    rw [upd_ne _ _ e1];exact hm2.box k hk
  ·show upd _ _ _ _=_
   rw [upd_ne _ _ (by intro e1;subst e1;exact absurd hm (Nat.not_lt.2 hk))];exact hm2.dead k hk
  all_goals
   have live:∀ k,upd st.sto m (.arr e kc ([]:List α).length fun i=>encD enc (([]:List α).getD i z)) k≠.dead->st.sto k≠.dead:=fun k hk=>by
    by_cases e1:k=m
    ·rw [e1];exact hd
    ·rwa [upd_ne _ _ e1] at hk
  ·exact fun k j b h1 h2=>hm2.injO k j b (live k h1) (live j h2)
  ·exact fun k b h1=>hm2.sepO k b (live k h1)
  ·exact fun k b h1=>hm2.frO k b (live k h1)
  ·exact fun k h1 hf=>hm2.non k (live k h1) (by
    by_cases e1:k=m
    ·rw [e1];exact hX
    ·dsimp only at hf;rwa [upd_ne _ _ e1] at hf)
 ·have hlen:0<l.length:=List.length_pos_iff.2 hl0
  rcases o2 with ⟨_,h⟩ | ⟨gg,cap,cur,p1,p2,p3,p4,p5,p6⟩
  ·omega
  have hρ:M.ρ m=some gg:=by rw [o3,p1];rfl
  have hw:w.heap[gg]? = some (.cells cur e (0,0)):=by rw [<-R.h];exact p2
  have hlt:gg<w.heap.size:=get?_lt hw
  have hmod:∀ t,t / kc*kc+t % kc=t:=fun t=>by rw [Nat.mul_comm];exact Nat.div_add_mod t kc
  have hcell:∀ t,t<l.length*kc->cur[t]? = some (.int .i64 ((enc (l.getD (t / kc) z)).getD (t % kc) 0)):=fun t ht=>by
   have hdl:t / kc<l.length:=Nat.div_lt_of_lt_mul (by rw [Nat.mul_comm];exact ht);have hml:t % kc<kc:=Nat.mod_lt _ hkc;have h4:=o4 (t / kc) hdl;rw [hf _ hdl] at h4
   have h2:t / kc*kc+kc<=l.length*kc:=by rw [<-Nat.succ_mul];exact Nat.mul_le_mul_right _ hdl
   have hx2:xs.length=l.length*kc:=o1
   have hel:((xs.drop (t / kc*kc)).take kc)[t % kc]? = cur[t]?:=by
    rw [List.getElem?_take,if_pos hml,List.getElem?_drop,hmod,<-p6,List.getElem?_take,if_pos ht];simp
   have hlen:t<cur.size:=by rw [p5];have:=Nat.mul_le_mul_right kc p3;omega
   have hv:cur[t]? = some cur[t]:=by simp [hlen]
   rw [hv] at hel
   have hd:(encD enc (l.getD (t / kc) z))[t % kc]? = some (.int .i64 ((enc (l.getD (t / kc) z)).getD (t % kc) 0)):=by
    exact enc_at _ _ _ (by rw [henc];exact hml)
   have:=(h4.get hd hel).2;simp only [Rd] at this;rw [hv,this]
  have hH:Sort.HoldsK (encV enc) kc w gg 0 l.toArray:=fun t ht=>by
   have ht' : t<l.length*kc:=by simpa using ht
   refine ⟨?_,?_⟩
   ·rw [flat_getG enc kc hkc henc z l t ht'];simp only [World.cell?,hw,Nat.zero_add];exact hcell t ht'
   ·simp [World.frozen?,hw]
  rw [p1];refine (H hl0 gg cap w hH hlt).mono ?_
  rintro e' w' ⟨rfl,q,os,rfl⟩
  have key:=R.storeL (n:=m) (b:=gg) hd hX hρ (cs:=Sort.putCells id 0 (Sort.flatK (encV enc) kc l'.toArray) cur) p2 (bx:=.arr e kc l'.length fun i=>encD enc (l'.getD i z)) fun M' hle hρ' hv' hb'=>by
   have hsz:(Sort.putCells id 0 (Sort.flatK (encV enc) kc l'.toArray) cur).size=cur.size:=by simp [Sort.putCells]
   have hget:∀ t,t<l'.length*kc->(Sort.putCells id 0 (Sort.flatK (encV enc) kc l'.toArray) cur)[t]? = some (.int .i64 ((enc (l'.getD (t / kc) z)).getD (t % kc) 0)):=fun t ht=>by
    have hts:t<cur.size:=by rw [p5];have:=Nat.mul_le_mul_right kc p3;rw [hl] at ht;omega
    have h0:cur[t]? = some cur[t]:=by simp [hts]
    simp only [Sort.putCells,Array.getElem?_mapIdx,h0,Option.map_some,zle,Nat.zero_add,true_and,Nat.sub_zero,id];rw [if_pos (by simpa using ht),flat_getG enc kc hkc henc z l' t ht]
   refine ⟨(Sort.putCells id 0 (Sort.flatK (encV enc) kc l'.toArray) cur).toList.take (l'.length*kc),⟨?_,.inr ⟨gg,cap,_,by rw [hv',p1,hl],hb',by omega,p4,by rw [hsz,p5],rfl⟩⟩,by rw [hρ',hv',p1];rfl,fun i hi=>?_,fun u hu=>?_⟩
   ·have hl2:(Sort.putCells id 0 (Sort.flatK (encV enc) kc l'.toArray) cur).toList.length=cap*kc:=hsz.trans p5;rw [List.length_take,hl2,hl];exact Nat.min_eq_left (Nat.mul_le_mul_right kc p3)
   ·have hi3:i*kc+kc<=l'.length*kc:=by rw [<-Nat.succ_mul];exact Nat.mul_le_mul_right _ hi
    have hq:((((Sort.putCells id 0 (Sort.flatK (encV enc) kc l'.toArray) cur).toList.take (l'.length*kc)).drop (i*kc)).take kc)=encV enc (l'.getD i z):=by
     apply List.ext_getElem?;intro j;by_cases hj:j<kc
     ·have e1:(i*kc+j) / kc=i:=by rw [Nat.mul_comm,Nat.mul_add_div hkc,Nat.div_eq_of_lt hj,Nat.add_zero]
      have e2:(i*kc+j) % kc=j:=by rw [Nat.mul_comm,Nat.mul_add_mod,Nat.mod_eq_of_lt hj]
      rw [List.getElem?_take,if_pos hj,List.getElem?_drop,List.getElem?_take,if_pos (by omega),Array.getElem?_toList,hget _ (by omega),e1,e2];exact (enc_at _ _ _ (by rw [henc];exact hj)).symm
     ·rw [List.getElem?_eq_none (by rw [List.length_take];omega),List.getElem?_eq_none (by unfold encV;rw [List.length_map,henc];omega)]
    rw [hq];exact enc_rd _ _ _
   ·obtain ⟨t,ht⟩:=List.mem_iff_getElem?.1 hu
    have htl:t<l'.length*kc:=by
     have:=(List.getElem?_eq_some_iff.1 ht).1;rw [List.length_take] at this;omega
    rw [List.getElem?_take,if_pos htl,Array.getElem?_toList,hget t htl] at ht;cases ht;rfl
  obtain ⟨M1,R1,_⟩:=key
  have hrow:(w.setRow gg (Sort.putCells id 0 (Sort.flatK (encV enc) kc l'.toArray) cur)).heap=(Sort.putRowK (encV enc) kc (Sort.ahead w q) gg 0 l'.toArray).heap:=by
   have h1:=setRow_heap w gg cur (Sort.putCells id 0 (Sort.flatK (encV enc) kc l'.toArray) cur) e (0,0) hw;apply Array.ext_getElem?;intro k
   show _=(w.heap.modify gg (onCells _))[k]?
   rw [Array.getElem?_modify];by_cases hk:gg=k
   ·subst hk;rw [if_pos rfl,hw];exact h1
   ·rw [if_neg hk];exact setRow_other w gg k _ (Ne.symm hk)
  have hbel:RowKit.Below (w.setRow gg (Sort.putCells id 0 (Sort.flatK (encV enc) kc l'.toArray) cur)).heap.size (w.setRow gg (Sort.putCells id 0 (Sort.flatK (encV enc) kc l'.toArray) cur)) (Go.Proofs.sortWorldK (encV enc) kc w gg 0 q l'.toArray os):=by
   refine ⟨rfl,rfl,rfl,?_,fun k hk=>?_⟩
   ·rw [hrow];simp [Go.Proofs.sortWorldK,grow]
   ·rw [hrow] at hk ⊢
    show ((Sort.putRowK (encV enc) kc (Sort.ahead w q) gg 0 l'.toArray).heap ++ os)[k]? = _
    rw [Array.getElem?_append_left hk]
  obtain ⟨M2,R2,_⟩:=R1.below hbel;exact ⟨_,_,M2,.tuple #[],rfl,hK.out,R2,by simp [Rd,RdT]⟩
end
end Sx
namespace Sx
open Go
structure ListAt (b o0 bk o cap N:Nat) (f g:Nat->Int) (W:World):Prop where
 box:W.cell? ⟨b,o0,none⟩=some (.slice (some ⟨bk,o,none⟩) N cap)
 el1:∀ i,i<N->W.cell? ⟨bk,o+i*2,none⟩=some (.int .i64 (f i))
 el2:∀ i,i<N->W.cell? ⟨bk,o+i*2+1,none⟩=some (.int .i64 (g i))
structure EachIt (P:Program) (gf:FuncId):Prop where
 fn:FnOK P gf
 ok:∀ (n l b o0 bk o cap N:Nat) (f g:Nat->Int) (J:Nat->World->Prop) (Jx:World->Prop) (W:World),0<N->N<=1000000 ->
  (∀ i W W',J i W->RowKit.Below W.heap.size W W'->J i W') ->
  (∀ i W,J i W->ListAt b o0 bk o cap N f g W) ->
  (∀ i W,J i W->i<N->YieldAt Fence.wide (n - 1) P l #[.agg #[.int .i64 (f i),.int .i64 (g i)]] W fun e W'=>(e = .returned (.bool true)/\J (i+1) W')\/(e = .returned (.bool false)/\Jx W')) ->
  J 0 W->CallsIn Fence.wide n P gf #[.func (.yield l) #[] #[],.pointer (some ⟨b,o0,none⟩)] W fun e W'=>(∃ v,e = .returned v)/\(J N W'\/Jx W')
section
variable {P:Program} {Γ:Ty} {c:Cx P} {nt:Nt} {M:Mi} {st:St} {a:Act} {w:World}
theorem listAt_of (hh:M.h=w.heap) {N:Nat} {f g:Nat->Int} (hN:0<N) {v:Value} (h:Rd M true (.ref [.tab 2 N fun i=>[.int .i64 (f i),.int .i64 (g i)]]) v) :
 ∃ b o0 bk o cap,v = .pointer (some ⟨b,o0,none⟩)/\M.S b/\M.S bk/\ListAt b o0 bk o cap N f g w:=by
 simp only [Rd] at h;obtain ⟨b,o0,rfl,hS,vs,hc,hr⟩:=h
 match vs,hc,hr with
 | [],_,hr=>simp [RdL] at hr| _ :: _ :: _,_,hr=>simp [RdL] at hr
 | [x],hc,hr =>
   simp only [RdL,Rd] at hr;obtain ⟨_,⟨ad,cap,rfl,hcap,hel⟩,_⟩:=hr;obtain ⟨bk,o,rfl,hSk,_⟩:=hel 0 hN;refine ⟨b,o0,bk,o,cap,rfl,hS,hSk,?_,fun i hi=>?_,fun i hi=>?_⟩
   ·have:=hc 0 (by simp);rw [cell?_at,<-hh];simpa using this
   ·obtain ⟨b',o',e,_,vs,hl,hcs,hrd⟩:=hel i hi;cases e
    match vs,hl,hcs,hrd with
    | [x,y],_,hcs,hrd =>
      simp only [RdL,Rd] at hrd;have:=hcs 0 (by simp);rw [cell?_at,<-hh];rw [Nat.add_zero] at this;rw [this,<-hrd.2.1];rfl
   ·obtain ⟨b',o',e,_,vs,hl,hcs,hrd⟩:=hel i hi;cases e
    match vs,hl,hcs,hrd with
    | [x,y],_,hcs,hrd =>
      simp only [RdL,Rd] at hrd;have:=hcs 1 (by simp);rw [cell?_at,<-hh,this,<-hrd.2.2.2.1];rfl
theorem ListAt.moved {b o0 bk o cap N:Nat} {f g:Nat->Int} {W W' : World} (h:ListAt b o0 bk o cap N f g W) (h1:W'.heap[b]? = W.heap[b]?) (h2:W'.heap[bk]? = W.heap[bk]?):ListAt b o0 bk o cap N f g W':=by
 refine ⟨?_,fun i hi=>?_,fun i hi=>?_⟩
 ·have:=h.box;rw [cell?_at] at this ⊢;unfold cellAt at *;rw [h1];exact this
 ·have:=h.el1 i hi;rw [cell?_at] at this ⊢;unfold cellAt at *;rw [h2];exact this
 ·have:=h.el2 i hi;rw [cell?_at] at this ⊢;unfold cellAt at *;rw [h2];exact this
set_option maxHeartbeats 1000000 in
theorem CodeOK.each (H:TyOK P Γ) (hm:P.follows .mixedOrders=true) {gf:FuncId} (It:EachIt P gf) (ords:Ords) {assign body:Code} {p0 tg:Nat}
 (hi:(inOK assign && (inOK body && (ordsOK ords assign && ordsOK ords body)))=true) {K:Ex->St->Prop}
 {Y:Type} (lv:List Nat) (sl:Y->List (Nat × D)) (bx:Y->List (Nat × Box)) (nxt N:Nat) (f g:Nat->Int) (φ:Y->Nat->Prop) (hN0:0<N) (hN1:N<=1000000)
 (hlv:∀ y t,memN t lv=false->lkE (sl y) t = .any) (hlt:(memN tg lv && (!memN p0 lv && Nat.blt p0 nt.n))=true)
 (hgd:∀ y,lkE (sl y) tg = .fn gf [.ref [.tab 2 N fun i=>[.int .i64 (f i),.int .i64 (g i)]]])
 (h0:Again (fun y=>φ y 0) fun y=>mtS st (sl y) (bx y) nxt)
 (hb:∀ y i,φ y i->i<N->Step (WX P Γ ⟨nt.n,lv⟩ ords [] assign ⟨upd (lkE (sl y)) p0 (.agg [.int .i64 (f i),.int .i64 (g i)]),lkB (bx y),nxt⟩
   (rowA fun st1=>WX P Γ ⟨nt.n,lv⟩ ords [] body st1 (rowB lv K fun st3=>Again (fun y'=>φ y' (i+1)) fun y'=>mtS st3 (sl y') (bx y') nxt))))
 (hd:∀ y,φ y N->Step (K .normal (mkSt (sl y) (bx y) nxt))) :
 CodeOK P nt (.rangeFunc (.tmp tg) #[p0] assign body) st K:=by
 simp only [bat,Bool.not_eq_true'] at hi hlt;obtain ⟨hia,hib,hoa,hob⟩:=hi;obtain ⟨htg,hp0,hn0⟩:=hlt
 have hn0:p0<nt.n:=by rw [<-Nat.blt_eq];exact hn0
 refine ⟨fun c M a w R=>(wpIn_wide (n:=0)).1 ?_⟩;obtain ⟨y0,hφ0,hmt⟩:=h0;obtain ⟨st',M1,rfl,R0⟩:=mtS_turn hmt c M a w R
 have hcw0:c.w0.heap.size<=w.heap.size:=by rw [<-R0.h];exact R0.mem.size
 obtain ⟨cc,q0,q1,q2,q3,q4,q5,q6⟩:=R0.rebaseW c.tm c.dm c.nd (fun d hd=>by
  obtain ⟨D,e,d1,d2,d3,d4⟩:=R0.marks d hd
  exact ⟨D,e,Nat.lt_of_lt_of_le d1 hcw0,d2,d3,d4⟩)
 have hxc:CxE c cc:=⟨q2,by rw [q1];exact hcw0,q5,by rw [q1];exact R0.os,by rw [q1];exact R0.tape,by rw [q1];exact R0.output,fun d hd=>.inl (by rwa [q3] at hd)⟩;have R1:RelM cc nt M1 (mkSt (sl y0) (bx y0) nxt) a w:=⟨R0.h,R0.nx,q4,R0.env,⟨R0.sz.1,fun t ht=>by rw [q2];exact R0.sz.2 t ht⟩,by rw [q3];exact R0.defs,by rw [q1],by rw [q1],by rw [q1]⟩;refine wpIn_mono ?_ (QK.ext hxc);have hgv:=R1.env tg;rw [show (mkSt (sl y0) (bx y0) nxt).env tg = .fn gf [.ref [.tab 2 N fun i=>[.int .i64 (f i),.int .i64 (g i)]]] from hgd y0] at hgv
 have hgv2:∃ v,a.tmps.getD tg undef = .func (.func gf) #[] #[v]/\Rd M1 true (.ref [.tab 2 N fun i=>[.int .i64 (f i),.int .i64 (g i)]]) v:=by
  generalize hdd:D.ref [.tab 2 N fun i=>[.int .i64 (f i),.int .i64 (g i)]]=dd at hgv ⊢;simp only [Rd] at hgv;obtain ⟨cs,hval,hcs⟩:=hgv
  match cs,hcs with
  | ⟨[v]⟩,hcs =>
    simp only [RdL] at hcs;refine ⟨v,hval,?_⟩;subst hdd;have:=hcs.2.1;simp only [Rd] at this ⊢;exact this
  | ⟨[]⟩,hcs=>simp [RdL] at hcs| ⟨_ :: _ :: _⟩,hcs=>simp [RdL] at hcs
 obtain ⟨v,hval,hrd⟩:=hgv2;obtain ⟨b,o0,bk,o,cap,rfl,hSb,hSk,hLA⟩:=listAt_of R1.h hN0 hrd;have heval:a.eval (.tmp tg) = .func (.func gf) #[] #[.pointer (some ⟨b,o0,none⟩)]:=hval
 have hbf:∀ x,M1.S x->∀ M sto,Mem cc M sto->M.h[x]? = w.heap[x]?:=fun x hx M' sto' hm'=>by
  rw [hm'.frame x (by rw [q1,<-R0.h];exact R0.mem.Slt x hx) (fun hf=>?_),q1];obtain ⟨n,hn,ho⟩:=q0 x hf;exact R0.mem.sepO n x hn ho hx
 refine wpIn_rangeFunc fun fn _=>?_
 obtain ⟨rec,hrec⟩:∃ rec:LoopState->Option Code->Loop,rec=fun st pe=>{ state:=st,pending:=pe,fn,tmps:=a.tmps,params:=#[p0],assign,body,defers:=w.heap.size }:=⟨_,rfl⟩
 obtain ⟨L,hL⟩:∃ L,L=w.heap.size+1:=⟨_,rfl⟩;obtain ⟨Dk,hDk⟩:∃ Dk,Dk=w.heap.size:=⟨_,rfl⟩;obtain ⟨W1,hW1⟩:∃ W1,(w.alloc (.deferred (some []))).alloc (.loop (rec .ready none))=W1:=⟨_,rfl⟩
 have hL1:W1.heap[L]? = some (.loop (rec .ready none)):=by
  rw [<-hW1,hL];have:=World.alloc_heap_new (w.alloc (.deferred (some []))) (.loop (rec .ready none));rwa [World.size_alloc] at this
 have hD1:W1.heap[Dk]? = some (.deferred (some [])):=by
  rw [<-hW1,hDk];exact (RowKit.Below.heap_alloc _ _ _ (by simp)).trans (World.alloc_heap_new w _)
 have hb1:RowKit.Below w.heap.size w W1:=by
  rw [<-hW1];exact (((RowKit.Below.refl _ w).alloc (Nat.le_refl _) _).alloc (by simp) _)
 have hcw:cc.w0.heap.size<=w.heap.size:=by rw [<-R1.h];exact R1.mem.size
 let J:Nat->World->Prop:=fun s W=>∃ y M,φ y s/\RelM cc nt M (mkSt (sl y) (bx y) nxt) a W/\Aside M (lkB (bx y)) L Dk/\W.heap[L]? = some (.loop (rec .ready none))/\W.heap[Dk]? = some (.deferred (some []))
 let Jx:World->Prop:=fun W=>∃ (jc:Code) (e:Ex) (stf:St) (M:Mi),((jc = .ret/\e = .ret)\/∃ i,jc = .exit i/\e = .exit i)/\K e stf/\RelM cc nt M stf a W/\Aside M stf.sto L Dk/\W.heap[L]? = some (.loop (rec .done (some jc)))/\W.heap[Dk]? = some (.deferred (some []))
 have fin:∀ (stf:St) (M:Mi) (W:World) (l:Loop),RelM cc nt M stf a W->Aside M stf.sto L Dk->W.heap[L]? = some (.loop l)->W.heap[Dk]? = some (.deferred (some []))->∀ (l' : Loop),∃ c' M',CxE cc c'/\RelM c' nt M' stf { a with defers:=[{ target:=.collected Dk,args:=#[] }] ++ a.defers } (W.putObj L (.loop l')):=by
  intro stf M W l R hA hl hk l';have R4:=R.other (o':=.loop l') hl (by omega) hA.sL hA.bL
  have hk4:(W.putObj L (.loop l')).heap[Dk]? = some (.deferred (some [])):=by rw [World.putObj_heap_other (by omega)];exact hk
  have hlt4:Dk<(W.putObj L (.loop l')).heap.size:=(Array.getElem?_eq_some_iff.1 hk4).1
  have hc4:cc.w0.heap.size<=(W.putObj L (.loop l')).heap.size:=by rw [<-R4.h];exact R4.mem.size
  obtain ⟨c',e1,e2,e3,e4,e5,_⟩:=R4.rebase cc.tm ({ target:=.collected Dk,args:=#[] } :: cc.dm)
   (List.nodup_cons.2 ⟨fun hin=>by
     obtain ⟨D,e,d1,_⟩:=cc.mks _ hin
     cases e;omega,cc.nd⟩)
   (fun d hd'=>by
     rcases List.mem_cons.1 hd' with rfl | hd'
     ·exact ⟨Dk,rfl,hlt4,hA.bD,hA.sD,hk4⟩
     ·obtain ⟨D,e,d1,d2,d3,d4⟩:=R4.marks d hd'
      exact ⟨D,e,Nat.lt_of_lt_of_le d1 hc4,d2,d3,d4⟩)
  refine ⟨c',_,⟨e2,by rw [e1];exact hc4,e5,by rw [e1];exact R4.os,by rw [e1];exact R4.tape,by rw [e1];exact R4.output,fun d hd'=>?_⟩,⟨R4.h,R4.nx,e4,R4.env,⟨R4.sz.1,fun t ht=>by rw [e2];exact R4.sz.2 t ht⟩,by rw [e3,<-R.defs];rfl,by rw [e1],by rw [e1],by rw [e1]⟩⟩;rw [e3] at hd'
  rcases List.mem_cons.1 hd' with rfl | hd'
  ·exact .inr ⟨Dk,rfl,by omega⟩
  ·exact .inl hd'
 have hAs:∀ {M:Mi} {sto:Nat->Box},Mem cc M sto->M.h.size<=w.heap.size->Aside M sto L Dk:=fun {M sto} h hs =>
  ⟨fun h1=>by have:=h.Slt _ h1;omega,fun n h1 h2=>by have:=h.bltO h1 h2;omega,fun h1=>by have:=h.Slt _ h1;omega,fun n h1 h2=>by have:=h.bltO h1 h2;omega⟩
 refine ⟨L,[{ target:=.collected Dk,args:=#[] }],W1,{ target:=.fn (.func gf) #[.pointer (some ⟨b,o0,none⟩)],args:=#[.func (.yield L) #[] #[]] },W1,gf,
  #[.func (.yield L) #[] #[],.pointer (some ⟨b,o0,none⟩)],W1,?_,?_,fun _ _=>trivial,?_,fun e=>by simp [Fence.wide] at e,?_⟩
 ·rw [<-hW1,hrec,hL,hDk];exact run_enterLoop_outer _ _ _ _ _
 ·simp only [resolve,heval];simp [go_sem]
 ·have hent:(callFunc gf #[.func (.yield L) #[] #[],.pointer (some ⟨b,o0,none⟩)]).run P W1 = .ok (.enter gf #[.func (.yield L) #[] #[],.pointer (some ⟨b,o0,none⟩)]) W1:=by
   obtain ⟨fn',hfn,hbody,hname⟩:=It.fn.ex
   have hname' : fn'.name≠ "runtime.NumGoroutine":=by simpa using hname
   have hbody' : fn'.body≠none:=by intro h0;rw [h0] at hbody;cases hbody
   simp [callFunc,hfn,hbody',hname']
  simpa [invoke,go_sem] using hent
 ·refine (It.ok 0 L b o0 bk o cap N f g J Jx W1 hN0 hN1 ?grow ?hold ?yield ?init).mono ?post
  case grow =>
   rintro s W W' ⟨y,M,hφ,R,hA,hl,hk⟩ hbw
   obtain ⟨M',R',e1,e2,e3⟩:=R.below hbw
   have e4:∀ n b,M'.O n b ↔ M.O n b:=fun n b=>by simp only [Mi.O,e2,e3]
   refine ⟨y,M',hφ,R',⟨by rw [e1];exact hA.sL,fun n hn=>by rw [e4];exact hA.bL n hn,by rw [e1];exact hA.sD,fun n hn=>by rw [e4];exact hA.bD n hn⟩,?_,?_⟩
   ·rw [hbw.block _ (Array.getElem?_eq_some_iff.1 hl).1];exact hl
   ·rw [hbw.block _ (Array.getElem?_eq_some_iff.1 hk).1];exact hk
  case hold =>
   rintro s W ⟨y,M,hφ,R,_⟩
   exact hLA.moved (by rw [<-R.h];exact hbf b hSb _ _ R.mem) (by rw [<-R.h];exact hbf bk hSk _ _ R.mem)
  case init =>
   obtain ⟨M',R',e1,e2,e3⟩:=R1.below hb1
   have e4:∀ n b,M'.O n b ↔ M1.O n b:=fun n b=>by simp only [Mi.O,e2,e3]
   have hA:=hAs R1.mem (by rw [R1.h];exact Nat.le_refl _);exact ⟨y0,M',hφ0,R',⟨by rw [e1];exact hA.sL,fun n hn=>by rw [e4];exact hA.bL n hn,by rw [e1];exact hA.sD,fun n hn=>by rw [e4];exact hA.bD n hn⟩,hL1,hD1⟩
  case post =>
   rintro e W2 ⟨⟨v,rfl⟩,(⟨y,M,hφ,R,hA,hl,hk⟩ | ⟨jc,e,stf,M,hj,hK,R,hA,hl,hk⟩)⟩
   ·obtain ⟨c',M',hx,R'⟩:=fin _ _ _ _ R hA hl hk { rec .ready none with state:=.exhausted };refine ⟨_,_,run_endLoop (P:=P) hl (by rw [hrec];simp),?_⟩;subst hrec;exact ⟨c',_,M',hx,(hd y hφ).out,R'⟩
   ·obtain ⟨c',M',hx,R'⟩:=fin _ _ _ _ R hA hl hk { rec .done (some jc) with state:=.exhausted };refine ⟨_,_,run_endLoop (P:=P) hl (by rw [hrec];simp),?_⟩;subst hrec
    rcases hj with ⟨rfl,rfl⟩ | ⟨i,rfl,rfl⟩
    ·exact wpIn_ret ⟨c',_,M',hx,hK,R'⟩
    ·exact wpIn_exit ⟨c',_,M',hx,hK,R'⟩
  case yield =>
   rintro s W ⟨y,M,hφ,R,hA,hl,hk⟩ hcut
   have hy:=run_yield (P:=P) (args:=#[.agg #[.int .i64 (f s),.int .i64 (g s)]]) hl (by rw [hrec];rfl);rw [hrec] at hy;refine ⟨fn,_,assign,body,hy,roundIn_of_wpIn trivial ?_⟩;have hlL:=(Array.getElem?_eq_some_iff.1 hl).1;have hlD:=(Array.getElem?_eq_some_iff.1 hk).1;obtain ⟨cR,r1,r2,r3,r4,r5,r6⟩:=R.rebase (fun t=>a.tmps.getD t undef) [] List.nodup_nil nofun;have RA:RelM cR ⟨nt.n,lv⟩ M (mkSt (sl y) (bx y) nxt) { a with defers:=[] } W:=⟨R.h,R.nx,r4,R.env,⟨R.sz.1,fun t _=>by rw [r2]⟩,by rw [r3],by rw [r1],by rw [r1],by rw [r1]⟩;have RP:=RA.put (d:=.agg [.int .i64 (f s),.int .i64 (g s)]) (v:=.agg #[.int .i64 (f s),.int .i64 (g s)]) (by simp [Rd,RdL,Value.oneCell']) (t:=p0) hn0 hp0;have hwx:=(hb y s hφ hcut).out
   have hz:(#[p0].zip #[Value.agg #[.int .i64 (f s),.int .i64 (g s)]]).foldl (fun tmps (t,a)=>tmps.setIfInBounds t a) a.tmps=a.tmps.setIfInBounds p0 (.agg #[.int .i64 (f s),.int .i64 (g s)]):=by simp
   dsimp only;rw [hz];refine wpIn_mono ((WX_in H hm assign _ _ hia hoa hwx).ok cR M _ W L 0 RP) ?_;intro e a1 w1 hq
   cases e with
   | goto l=>exact hq.elim| panic ch=>exact hq.elim| outgrown=>exact hq.elim
   | exit i=>obtain ⟨_,_,_,_,hk1,_⟩:=hq;exact hk1.elim
   | ret=>obtain ⟨_,_,_,_,hk1,_⟩:=hq;exact hk1.elim
   | normal =>
     obtain ⟨c1,st1,M2,hx1,hk1,Ra⟩:=hq;obtain ⟨l1,l2,l3⟩:=r6 L hlL hA.sL hA.bL M2 _ (hx1.mem _ _ Ra.mem);obtain ⟨k1,k2,k3⟩:=r6 Dk hlD hA.sD hA.bD M2 _ (hx1.mem _ _ Ra.mem);rw [Ra.h,hl] at l1;rw [Ra.h,hk] at k1;refine ⟨_,run_beginRound l1 (by rw [hrec]),?_⟩
     have o1:w1.os=cc.w0.os:=by rw [Ra.os,hx1.os,r1];exact R.os
     have o2:w1.tape=cc.w0.tape:=by rw [Ra.tape,hx1.tape,r1];exact R.tape
     have o3:w1.output=cc.w0.output:=by rw [Ra.output,hx1.output,r1];exact R.output
     obtain ⟨cB,b1,b2,b3,b4,b5,b6⟩:=Ra.turned (r5 _ _ (hx1.mem _ _ Ra.mem)) o1 o2 o3 l1 (.loop { rec .ready none with state:=.busy }) (by omega) l2 l3
     have hlL2:L<(w1.putObj L (.loop { rec .ready none with state:=.busy })).heap.size:=by
      have:=(Array.getElem?_eq_some_iff.1 l1).1;simpa [World.putObj] using this
     have hl2:(w1.putObj L (.loop { rec .ready none with state:=.busy })).heap[L]? = some (.loop { rec .ready none with state:=.busy }):=World.putObj_heap_same (Array.getElem?_eq_some_iff.1 l1).1
     have hk2:(w1.putObj L (.loop { rec .ready none with state:=.busy })).heap[Dk]? = some (.deferred (some [])):=by rw [World.putObj_heap_other (by omega)];exact k1
     have hlD2:=(Array.getElem?_eq_some_iff.1 hk2).1;refine wpIn_mono ((WX_in H hm body _ _ hib hob hk1).ok cB _ _ _ L 0 b4) ?_;intro e a3 w3 hq
     have tmB:∀ t,cB.tm t=a.tmps.getD t undef:=fun t=>by rw [b2,hx1.tm,r2]
     have back:∀ (c3:Cx P) (st3:St) (M3:Mi),CxE cB c3->RelM c3 ⟨nt.n,lv⟩ M3 st3 a3 w3->RelM cc nt M3 (restr lv st3) a w3/\Aside M3 st3.sto L Dk/\w3.heap[L]? = some (.loop { rec .ready none with state:=.busy })/\w3.heap[Dk]? = some (.deferred (some [])):=fun c3 st3 M3 hx3 R3=>by
      obtain ⟨x1,x2,x3⟩:=b6 L hlL2 l2 l3 M3 _ (hx3.mem _ _ R3.mem);obtain ⟨y1,y2,y3⟩:=b6 Dk hlD2 k2 k3 M3 _ (hx3.mem _ _ R3.mem);rw [R3.h,hl2] at x1;rw [R3.h,hk2] at y1;exact ⟨R.back R3 (b5 _ _ (hx3.mem _ _ R3.mem)) (fun t=>by rw [hx3.tm];exact tmB t) (by rw [R3.os,hx3.os,b1];exact o1.trans R.os.symm) (by rw [R3.tape,hx3.tape,b1];exact o2.trans R.tape.symm) (by rw [R3.output,hx3.output,b1];exact o3.trans R.output.symm),⟨x2,x3,y2,y3⟩,x1,y1⟩
     have over:∀ (stf:St) (M3:Mi) (jump:Option Code),RelM cc nt M3 stf a w3->Aside M3 stf.sto L Dk->w3.heap[L]? = some (.loop { rec .ready none with state:=.busy })->w3.heap[Dk]? = some (.deferred (some [])) ->
      ∃ w4 M4,(Instr.endRound L jump).run P w3 = .ok (.bool jump.isNone) w4/\RelM cc nt M4 stf a w4/\Aside M4 stf.sto L Dk/\w4.heap[L]? = some (.loop (rec (if jump.isNone then .ready else .done) jump))/\w4.heap[Dk]? = some (.deferred (some [])):=fun stf M3 jump Rf hA hl3 hk3=>by
      refine ⟨_,_,run_endRound (P:=P) jump hl3,Rf.other hl3 (by omega) hA.sL hA.bL,⟨hA.sL,hA.bL,hA.sD,hA.bD⟩,?_,?_⟩
      ·rw [World.putObj_heap_same (Array.getElem?_eq_some_iff.1 hl3).1];subst hrec;rfl
      ·rw [World.putObj_heap_other (by omega)];exact hk3
     cases e with
     | goto l=>exact hq.elim| panic ch=>exact hq.elim| outgrown=>exact hq.elim
     | normal =>
       obtain ⟨c3,st3,M3,hx3,⟨y',hφ',hmt'⟩,R3⟩:=hq;obtain ⟨st4,M4,rfl,R4⟩:=mtS_turn hmt' c3 M3 a3 w3 R3;obtain ⟨Rf,hA3,hl3,hk3⟩:=back c3 _ M4 hx3 R4;rw [restr_mk (hlv y')] at Rf;obtain ⟨w4,M5,h1,h2,h3,h4,h5⟩:=over _ M4 none Rf hA3 hl3 hk3;exact ⟨_,w4,h1,.inl ⟨rfl,y',M5,hφ',h2,h3,h4,h5⟩⟩
     | ret =>
       obtain ⟨c3,st3,M3,hx3,hk3',R3⟩:=hq;obtain ⟨Rf,hA3,hl3,hk3⟩:=back c3 _ M3 hx3 R3;obtain ⟨w4,M5,h1,h2,h3,h4,h5⟩:=over _ M3 (some .ret) Rf hA3 hl3 hk3;exact ⟨_,w4,h1,.inr ⟨rfl,.ret,.ret,_,M5,.inl ⟨rfl,rfl⟩,hk3',h2,h3,h4,h5⟩⟩
     | exit i =>
       obtain ⟨c3,st3,M3,hx3,hk3',R3⟩:=hq;obtain ⟨Rf,hA3,hl3,hk3⟩:=back c3 _ M3 hx3 R3;obtain ⟨w4,M5,h1,h2,h3,h4,h5⟩:=over _ M3 (some (.exit i)) Rf hA3 hl3 hk3;exact ⟨_,w4,h1,.inr ⟨rfl,.exit i,.exit i,_,M5,.inr ⟨i,rfl,rfl⟩,hk3',h2,h3,h4,h5⟩⟩
end
end Sx
