/-
  The reference's parties.
  No condition beyond those written in each theorem.
-/
import Derived.Test.YtfinddimpfiohaaGreatDoorKB6
set_option linter.unusedSimpArgs false
set_option linter.unusedVariables false
set_option maxRecDepth 4000
open Go Sx Go.Proofs
namespace Kx
structure Pt where
 n:Int
 e:Int
 sr:Int
 rows:List Rw
def Pt.l (p:Pt):List D:=[i64 p.n,i64 p.e,i64 p.sr,rws p.rows]
def Pt.d (p:Pt):D:=.agg p.l
def Pt.z:Pt:=⟨0,0,0,[]⟩
def RowsN (s:Sc) (l:List Rw):Prop:=∀ r ∈ l,r.ver≠0->(Rc.mk r.id r.ver r.vals).ok s
structure PtOk (s:Sc) (p:Pt):Prop where
 v:valid p.rows=0
 n:RowsN s p.rows
theorem RowsN.ins {s:Sc} {l:List Rw} {r:Rw} (h:RowsN s l) (hl:∀ x ∈ l,0<=x.ver) (h0:0<=r.ver) (hr:r.ver≠0->(Rc.mk r.id r.ver r.vals).ok s):RowsN s (ins l r):=fun x hx hv=>by
 rcases ins_mem l r x hx with rfl | hx | ⟨y,hy,he,rfl⟩
 ·exact hr hv
 ·exact h x hx hv
 ·unfold both at hv ⊢;dsimp only at hv ⊢;split at hv
  ·rename_i hc;rw [if_pos hc];rw [he];exact hr hv
  ·rename_i hc;rw [if_neg hc];exact h y hy hv
theorem PtOk.nil (s:Sc) (a b c:Int):PtOk s ⟨a,b,c,[]⟩:=⟨rfl,nofun⟩
theorem Rw.fine.v0 {r:Rw} (h:r.fine):0<=r.ver:=by
 have h2:=h.v;simp only [verB,bat,decide_eq_true_eq] at h2;exact h2.1
theorem r40check_ct (S:Stg) (hS:S.ok) (p:Pt) (hp:PtOk S.s p):Ct Tryz.prog 96 [S.d,p.d] Er:=by
 have hs:=hS.s.ok;have hrw:=valid_ok hp.v;have hrn:=hrw.n;have hfine:=(valid_zero.1 hp.v).2.1;refine De Tryz.func96 [] [] ?_
 repeat' first|apply S0;conv=>whnf|(exact Er.mk _)|(refine M0 (r36valid_ct p.rows hrw) ?_)|(refine Br.d (fun h=>?_) fun h=>?_)|refine Br.swap ?_|refine Br.bnot ?_|refine K0 ?_|(refine Met.by (g:=95) (r40setting_ct _ (by assumption)) ?_;rintro q outs ⟨⟨e,rfl⟩,rfl⟩)
 refine Lw [] [] (α:=Nat) (fun i=>[(2,.loc 0 0),(3,.loc 1 0),(7,i64 i)]) (fun i=>[(0,.var S.l),(1,.var p.l)]) 2 (fun i=>i<=p.rows.length) (fun i=>p.rows.length - i) ?_ ?_
 ·refine Again.by 0 (zle _) ?_
  repeat' first|apply S0;conv=>whnf|refine Vo ?_|exact T0
 ·intro i hi
  have hm:=fun h:(i:Int)<p.rows.length=>(getD_in (z:=Rw.z) (l:=p.rows) (i:=(i:Int).toNat) (by omega))
  have hl:=fun h:(i:Int)<p.rows.length=>(hfine _ (hm h)).len
  have hv:=fun (h:(i:Int)<p.rows.length) (h0:¬(p.rows.getD (i:Int).toNat Rw.z).ver=0)=>hp.n _ (hm h) h0
  have hc:=fun (h:(i:Int)<p.rows.length) (h0:¬(p.rows.getD (i:Int).toNat Rw.z).ver=0)=>r13check_ct S.s hs (p.rows.getD (i:Int).toNat Rw.z).id (p.rows.getD (i:Int).toNat Rw.z).ver (p.rows.getD (i:Int).toNat Rw.z).vals (by have:=hl h;omega) fun x hx=>by
   have h9:=hv h h0;obtain ⟨j,hj,rfl⟩:=List.getElem_of_mem hx;have h8:=(h9.v j (by rw [<-h9.n];exact hj)).le;dsimp only at h8;rw [gDe,List.getElem?_eq_getElem hj] at h8;exact Nat.le_trans h8 (by decide)
  clear hv hl
  repeat' first|apply S0;conv=>whnf|refine Vo ?_|refine W6 ?_|(exact Er.mk _)|(refine Met.by (hc (by omega) (by assumption)) ?_;rintro q outs ⟨⟨e,rfl⟩,rfl⟩)|(refine Br.d (fun h=>?_) fun h=>?_)|refine Br.bnot ?_|refine K0 ?_
  all_goals try
   refine Again.by (i+1) ⟨by omega,by omega⟩ ?_
   repeat' first|apply S0;conv=>whnf|refine Vo ?_|exact T0
   done
end Kx
open Go Sx Go.Proofs
namespace Kx
theorem r40start_ct (S:Stg) (hS:S.ok) (n:Int):Ct Tryz.prog 55 [S.d,i64 n] fun r outs=>∃ (p:Pt) (e:Int),(p.rows = []/\(p.n=n\/p.n=0))/\r = .tup [p.d,i64 e]/\outs = []:=by
 refine .some2 (De Tryz.func55 [] [] ?_)
 repeat' first|apply S0;conv=>whnf|(refine Br.d (fun h=>?_) fun h=>?_)|refine Br.swap ?_|refine Br.bnot ?_|refine K0 ?_|(refine Met.by (g:=95) (r40setting_ct _ (by assumption)) ?_;rintro q outs ⟨⟨e,rfl⟩,rfl⟩)
 ·refine Lf2.by Pt.z 53 ⟨rfl,.inr rfl⟩ ?_
  repeat' first|apply S0;conv=>whnf|exact T0|refine T2 ?_ ?_
 ·refine Lf2.by Pt.z 53 ⟨rfl,.inr rfl⟩ ?_
  repeat' first|apply S0;conv=>whnf|exact T0|refine T2 ?_ ?_
 ·refine Lf2.by ⟨n,0,0,[]⟩ 0 ⟨rfl,.inl rfl⟩ ?_
  repeat' first|apply S0;conv=>whnf|exact T0|(rfl)|refine T2 ?_ ?_
 ·refine Lf2.by Pt.z e ⟨rfl,.inr rfl⟩ ?_
  repeat' first|apply S0;conv=>whnf|exact T0|refine T2 ?_ ?_
structure EvP (s:Sc) (e:Ev):Prop where
 n:e.vals.length<=100
 r:e.kind=1->RawsP s e.vals/\e.vals.length=s.f.length
theorem told_ok {s:Sc} {l:List Rw} {e:Ev} (h:(apply l e).2=0) (hn:RowsN s l) (hr:e.row.ver≠0->(Rc.mk e.row.id e.row.ver e.row.vals).ok s):valid (apply l e).1=0/\RowsN s (apply l e).1:=by
 obtain ⟨h1,h2,_,h4⟩:=apply_ok h;refine ⟨apply_valid h,?_⟩;rw [h4];exact hn.ins (fun x hx=>((valid_zero.1 h1).2.1 x hx).v0) (fine_row h2).v0 hr
theorem told_len {l:List Rw} {e:Ev} (h:(apply l e).2=0):(apply l e).1.length<=l.length+1:=by
 rw [(apply_ok h).2.2.2];exact ins_len _ _
theorem row_one {e:Ev} (h:e.kind=1):e.row=⟨e.id,e.ver,e.vals,0,0,0⟩:=if_pos h
theorem row_two {e:Ev} (h:¬e.kind=1):e.row.ver=0:=by rw [Ev.row,if_neg h]
theorem chk_one {e:Ev} (h:e.chk=0) (hk:e.kind=1):e.st=0/\e.into=0:=by
 unfold Ev.chk at h;split at h
 ·split at h
  ·rename_i hg;simp only [Ev.good,hk,Bool.or_eq_true,bat,decide_eq_true_eq] at hg;omega
  ·omega
 ·omega
theorem r40told_ct (S:Stg) (hS:S.ok) (p:Pt) (hp:PtOk S.s p) (e:Ev) (he:EvP S.s e):Ct Tryz.prog 97 [S.d,p.d,e.d] fun r outs=>∃ (q:Pt) (x:Int),(x=0->PtOk S.s q/\q.n=p.n/\q.e=p.e/\q.sr=p.sr/\q.rows.length<=p.rows.length+1)/\r = .tup [q.d,i64 x]/\outs = []:=by
 have hs:=hS.s.ok;have hrw:=valid_ok hp.v;have hen:=he.n;by_cases hk:e.kind=1
 ·obtain ⟨hr,hn⟩:=he.r hk;by_cases hst:e.st=0/\e.into=0
  ·by_cases hid:1<=e.id/\e.id<=1048576/\1<=e.ver/\e.ver<=1048576
   ·have hmk:=rmake_ct' S.s hs e.id e.ver hid e.vals hn hr.len;have hap:=r36apply_ct p.rows ⟨e.kind,e.id,e.ver,mkL S.s e.vals S.s.f.length,e.st,e.into⟩ hrw (by show (mkL S.s e.vals S.s.f.length).length<=100000;rw [mkL_len];omega);refine .some2 (De Tryz.func97 [] [] ?_)
    repeat' first|apply S0;conv=>whnf|refine B1 ?_|(refine Met.by hmk ?_;rintro q outs ⟨m,er,hm,rfl,rfl⟩)|(refine Br.d (fun h=>?_) fun h=>?_)|refine Br.bnot ?_|refine K0 ?_
    ·obtain ⟨rfl,hE⟩:=hm h
     repeat' first|apply S0;conv=>whnf|(refine M0 hap ?_)|(refine Br.d (fun h=>?_) fun h=>?_)|refine Br.bnot ?_
     ·have hq:=told_ok h hp.n fun _=>by rw [row_one (by exact hk)];exact made_ok hS.s hr hn hid hE
      refine Lf2.by ⟨p.n,p.e,p.sr,(apply p.rows ⟨e.kind,e.id,e.ver,mkL S.s e.vals S.s.f.length,e.st,e.into⟩).1⟩ 0 (fun _=>⟨⟨hq.1,hq.2⟩,rfl,rfl,rfl,told_len h⟩) ?_
      repeat' first|apply S0;conv=>whnf|exact T0|exact T1|refine T2 ?_ ?_
     ·refine Lf2.by Pt.z (apply p.rows ⟨e.kind,e.id,e.ver,mkL S.s e.vals S.s.f.length,e.st,e.into⟩).2 (fun h9=>absurd h9 h) ?_
      repeat' first|apply S0;conv=>whnf|exact T0|refine T2 ?_ ?_
    ·refine Lf2.by Pt.z er (fun h9=>absurd h9 h) ?_
     repeat' first|apply S0;conv=>whnf|exact T0|refine T2 ?_ ?_
   ·have hmk:=rmakeF_ct S.s hs e.id e.ver hid e.vals hn;refine .some2 (De Tryz.func97 [] [] ?_)
    repeat' first|apply S0;conv=>whnf|refine B1 ?_|refine B0 ?_|(refine Met.by hmk ?_;rintro q outs ⟨m,er,hm,rfl,rfl⟩)|refine Br.bnot ?_|refine K0 ?_
    refine Lf2.by Pt.z er (fun h9=>absurd h9 hm) ?_
    repeat' first|apply S0;conv=>whnf|exact T0|refine T2 ?_ ?_
  ·have hap:=r36apply_ct p.rows e hrw (by omega);refine .some2 (De Tryz.func97 [] [] ?_)
   repeat' first|apply S0;conv=>whnf|refine B1 ?_|refine B0 ?_|(refine M0 hap ?_)|(refine Br.d (fun h=>?_) fun h=>?_)|refine Br.bnot ?_|refine K0 ?_
   all_goals try exact absurd (chk_one (apply_ok h).2.1 hk) hst
   all_goals refine Lf2.by Pt.z (apply p.rows e).2 (fun h9=>absurd h9 h) ?_
   all_goals
    repeat' first|apply S0;conv=>whnf|exact T0|refine T2 ?_ ?_
 ·have hap:=r36apply_ct p.rows e hrw (by omega);refine .some2 (De Tryz.func97 [] [] ?_)
  repeat' first|apply S0;conv=>whnf|refine B0 ?_|(refine M0 hap ?_)|(refine Br.d (fun h=>?_) fun h=>?_)|refine Br.bnot ?_|refine K0 ?_
  ·have hq:=told_ok h hp.n fun h9=>absurd (row_two hk) h9
   refine Lf2.by ⟨p.n,p.e,p.sr,(apply p.rows e).1⟩ 0 (fun _=>⟨⟨hq.1,hq.2⟩,rfl,rfl,rfl,told_len h⟩) ?_
   repeat' first|apply S0;conv=>whnf|exact T0|exact T1|refine T2 ?_ ?_
  ·refine Lf2.by Pt.z (apply p.rows e).2 (fun h9=>absurd h9 h) ?_
   repeat' first|apply S0;conv=>whnf|exact T0|refine T2 ?_ ?_
theorem r40tell_ct (S:Stg) (hS:S.ok) (p:Pt) (hp:PtOk S.s p) (e:Ev) (he:EvP S.s e):Ct Tryz.prog 56 [S.d,p.d,e.d] fun r outs=>∃ (q:Pt) (x:Int),(x=0->PtOk S.s q/\q.n=p.n/\q.e=p.e/\q.sr=p.sr/\q.rows.length<=p.rows.length+1)/\r = .tup [q.d,i64 x]/\outs = []:=by
 refine .some2 (De Tryz.func56 [] [] ?_)
 repeat' first|apply S0;conv=>whnf|(refine Met.by (r40check_ct S hS p hp) ?_;rintro q outs ⟨⟨y,rfl⟩,rfl⟩)|(refine Met.by (r40told_ct S hS p hp e he) ?_;rintro q outs ⟨q,x,hq,rfl,rfl⟩)|(refine Br.d (fun h=>?_) fun h=>?_)|refine Br.bnot ?_|refine K0 ?_
 ·refine Lf2.by q x hq ?_
  repeat' first|apply S0;conv=>whnf|exact T0|exact T1|refine T2 ?_ ?_
 ·refine Lf2.by Pt.z y (fun h9=>absurd h9 h) ?_
  repeat' first|apply S0;conv=>whnf|exact T0|refine T2 ?_ ?_
end Kx
open Go Sx Go.Proofs
namespace Kx
theorem event0_ct (d:Dk):Ct Tryz.prog 98 [d.b,i64 0] fun r outs=>∃ (e:Ev) (d' : Dk),e.vals.length<=100/\r=e.d/\outs = [Dk.b d']:=event_ct d 0 (by omega)
theorem praw_ct (d:Dk) (S:Stg) (hS:S.ok):Ct Tryz.prog 57 [d.b,S.d] fun r outs=>∃ (e:Ev) (d' : Dk),EvP S.s e/\r=e.d/\outs = [Dk.b d']:=by
 have n3:=hS.n3;refine .some2 (De Tryz.func57 ord57 [] ?_)
 repeat' first|apply S0;conv=>whnf|(refine Br.d (fun h=>?_) fun h=>?_)|(refine CallOK.io1 (g:=98) (Step.out ?_))|(refine Met.by (g:=98) (event0_ct _) ?_;rintro q outs ⟨e,d,he,rfl,rfl⟩)
 ·refine Lw ord57 [] (α:=List Str × Dk) (fun z=>[(0,.loc 0 0),(3,.loc 1 0),(4,.loc 2 0),(5,.loc 3 0),(6,i64 z.1.length)]) (fun z=>[(0,.var z.2.ls),(1,.var S.l),(2,.var [i64 0,i64 0,i64 0,.nil,i64 0,i64 0]),(3,.var [i64 e.kind,i64 e.id,i64 e.ver,.own 4,i64 e.st,i64 e.into]),(4,.arr 9 1 z.1.length fun i=>[.str (z.1.getD i [])])]) 5 (fun z=>RawsP S.s z.1/\z.1.length<=S.s.f.length) (fun z=>S.s.f.length - z.1.length) ?_ ?_
  ·refine Again.by ([],d) ⟨nofun,zle _⟩ ?_
   repeat' first|apply S0;conv=>whnf|refine Vo ?_|exact T0|(rfl)|refine Vm ?_ ?_
  ·intro ⟨l,d⟩ ⟨hl,hi⟩;dsimp only at hl hi ⊢
   repeat' first|apply S0;conv=>whnf|refine Vo ?_|refine Vb ?_|refine W6 ?_|(refine Br.d (fun h=>?_) fun h=>?_)|refine T2 ?_ ?_|(refine CallOK.io1 (g:=99) (Step.out ?_))|(refine Met.by (g:=99) (rawv_ct _ _) ?_;rintro q outs ⟨x,d,hx,rfl,rfl⟩)
   all_goals try
    have hx' : RawP (S.s.kind l.length) x:=hx
    refine Again.by (l ++ [x],d) ⟨⟨hl.snoc hx',by simp;omega⟩,by simp;omega⟩ ?_
    repeat' first|apply S0;conv=>whnf|refine Vo ?_|exact T0|(simp;done)|(exact str_app _ _ rfl)|refine Vm ?_ ?_
    done
   refine Lf2.by ⟨e.kind,e.id,e.ver,l,e.st,e.into⟩ d ⟨by dsimp only;omega,fun _=>⟨hl,by dsimp only;omega⟩⟩ ?_
   repeat' first|apply S0;conv=>whnf|exact T0|exact T1|refine T2 ?_ ?_
 ·refine Lf2.by e d ⟨he,fun h9=>absurd h9 h⟩ ?_
  repeat' first|apply S0;conv=>whnf|exact T0|exact T1|refine T2 ?_ ?_
structure PtD (s:Sc) (n:Int) (p:Pt):Prop where
 ok:PtOk s p
 n:p.n=n\/p.n=0
 e:0<=p.e/\p.e<=2
 s:0<=p.sr/\p.sr<=2
 m:p.rows.length<=6
def zP:List D:=[i64 0,i64 0,i64 0,.nil]
set_option maxHeartbeats 2000000 in
theorem party_ct (d:Dk) (S:Stg) (hS:S.ok) (n:Int):Ct Tryz.prog 29 [d.b,S.d,i64 n] fun r outs=>∃ (p:Pt) (d' : Dk),PtD S.s n p/\r=p.d/\outs = [Dk.b d']:=by
 refine .some2 (De Tryz.func29 ord29 [] ?_)
 repeat' first|apply S0;conv=>whnf|(refine Met.by (next_ct _ 3) ?_;rintro q outs ⟨y,d,hy,rfl,rfl⟩)|(refine CallOK.io1 (g:=9) (Step.out ?_))|refine K0 ?_|(refine Met.by (g:=9) (next_ct _ _) ?_;rintro q outs ⟨x,d,hx,rfl,rfl⟩)|(refine Met.by (g:=55) (r40start_ct _ (by assumption) _) ?_;rintro q outs ⟨p,e,hp,rfl,rfl⟩)
 have hx7:=hx.2.2 (by decide);rename_i ep _ hep _;have h1:=hep.2.2 (by decide);have h2:=hy.2.2 (by decide);have hep0:=hep.1;have hy0:=hy.1;obtain ⟨pn,pe,ps,pr⟩:=p;dsimp only at hp;obtain ⟨rfl,hpn⟩:=hp;refine Lw ord29 [] (α:=Pt × Int × Dk) (fun z=>[(0,.loc 0 0),(4,.loc 1 0),(6,.loc 2 0),(7,.loc 3 0),(9,i64 z.2.1)]) (fun z=>[(0,.var z.2.2.ls),(1,.var S.l),(2,.var zP),(3,.var z.1.l)]) 4 (fun z=>PtD S.s n z.1/\0<=z.2.1/\z.1.rows.length+z.2.1<=6) (fun z=>z.2.1.toNat) ?_ ?_
 ·refine Again.by (⟨pn,ep,y,[]⟩,x,d) ⟨⟨PtOk.nil _ _ _ _,hpn,by dsimp only;omega,by dsimp only;omega,zle _⟩,by dsimp only;omega,by dsimp only [List.length_nil];omega⟩ ?_
  repeat' first|apply S0;conv=>whnf|refine Vo ?_|exact T0
 ·intro ⟨p,k,d⟩ ⟨hp,h0,h6⟩;dsimp only at hp h0 h6 ⊢;have hpo:=hp.ok;clear hx hy hep
  repeat' first|apply S0;conv=>whnf|exact T0|refine W6 ?_|(refine Br.d (fun h=>?_) fun h=>?_)|refine T2 ?_ ?_|(refine CallOK.io1 (g:=57) (Step.out ?_))|refine K1 ?_|(refine Met.by (g:=56) (r40tell_ct _ (by assumption) _ (by assumption) _ (by assumption)) ?_;rintro q outs ⟨q,x,hq,rfl,rfl⟩)|(refine Met.by (g:=57) (praw_ct _ _ (by assumption)) ?_;rintro q outs ⟨e,d,he,rfl,rfl⟩)
  all_goals try
   obtain ⟨h7,h8,h9,h10,h11⟩:=hq h;have h11:q.rows.length<=p.rows.length+1:=h11
   refine Again.by (q,k - 1,d) ⟨⟨⟨h7,by rw [h8];exact hp.n,by rw [h9];exact hp.e,by rw [h10];exact hp.s,by dsimp only;omega⟩,by dsimp only;omega,by dsimp only;omega⟩,by dsimp only;omega⟩ ?_
   repeat' first|apply S0;conv=>whnf|refine Vo ?_|refine Vb ?_|exact T0|refine Vm ?_ ?_
   done
  all_goals try
   refine Again.by (p,k - 1,d) ⟨⟨hp,by dsimp only;omega,by dsimp only;omega⟩,by dsimp only;omega⟩ ?_
   repeat' first|apply S0;conv=>whnf|refine Vo ?_|exact T0
   done
  refine Lf2.by p d hp ?_
  repeat' first|apply S0;conv=>whnf|exact T0|exact T1|refine T2 ?_ ?_
structure PtsD (s:Sc) (ep:Int) (l:List Pt):Prop where
 ok:∀ p ∈ l,PtOk s p/\p.e=ep/\(0<=p.sr/\p.sr<=2)/\p.rows.length<=6
 n:∀ i,i<l.length->(l.getD i Pt.z).n=i\/(l.getD i Pt.z).n=0
theorem PtsD.snoc {s:Sc} {ep:Int} {l:List Pt} (h:PtsD s ep l) {p:Pt} (hp:PtD s l.length p):PtsD s ep (l ++ [⟨p.n,ep,p.sr,p.rows⟩]):=by
 refine ⟨mem_snoc h.ok ⟨⟨hp.ok.v,hp.ok.n⟩,rfl,hp.s,hp.m⟩,fun i hi=>?_⟩;rw [lap,List.length_singleton] at hi;by_cases e:i<l.length
 ·rw [getD_ap1 _ _ _ _ e];exact h.n i e
 ·obtain rfl:i=l.length:=by omega
  rw [getD_last];exact hp.n
def pts (l:List Pt):D:=.tab 4 l.length fun i=>(l.getD i Pt.z).l
theorem ite_rws (c:Prop) [Decidable c] (x y:List Rw):D.ite c (rws x) (rws y)=rws (if c then x else y):=by
 show D.tab 6 (if c then x.length else y.length) (fun i=>[i64 (if c then (x.getD i Rw.z).id else (y.getD i Rw.z).id),i64 (if c then (x.getD i Rw.z).ver else (y.getD i Rw.z).ver),(if c then strs (x.getD i Rw.z).vals else strs (y.getD i Rw.z).vals),i64 (if c then (x.getD i Rw.z).sv else (y.getD i Rw.z).sv),i64 (if c then (x.getD i Rw.z).st else (y.getD i Rw.z).st),i64 (if c then (x.getD i Rw.z).into else (y.getD i Rw.z).into)])=_
 split<;>rfl
theorem ite_pt (c:Prop) [Decidable c] (x y:Pt):iteL c x.l y.l=(if c then x else y).l:=by
 show [i64 (if c then _ else _),i64 (if c then _ else _),i64 (if c then _ else _),D.ite c (rws x.rows) (rws y.rows)]=_
 rw [ite_rws]
 split<;>rfl
theorem parties_ct (d:Dk) (S:Stg) (hS:S.ok):Ct Tryz.prog 10 [d.b,S.d,i64 2] fun r outs=>∃ (l:List Pt) (ep:Int) (d' : Dk),(PtsD S.s ep l/\l.length=2/\1<=ep/\ep<=2)/\r=pts l/\outs = [Dk.b d']:=by
 refine .some3 (De Tryz.func10 [] [] ?_)
 repeat' first|apply S0;conv=>whnf|refine W6 ?_|(refine CallOK.io1 (g:=9) (Step.out ?_))|(refine Met.by (g:=9) (next_ct _ _) ?_;rintro q outs ⟨x,d,hx,rfl,rfl⟩)
 have hx2:=hx.2.2 (by decide);have hx0:=hx.1;refine Lw [] [] (α:=List Pt × Dk) (fun z=>[(0,.loc 0 0),(2,i64 2),(4,.loc 1 0),(7,.own 2),(8,i64 (1+x)),(9,i64 z.1.length)]) (fun z=>[(0,.var z.2.ls),(1,.var S.l),(2,.arr 55 4 z.1.length fun i=>(z.1.getD i Pt.z).l)]) 3 (fun z=>PtsD S.s (1+x) z.1/\z.1.length<=2) (fun z=>2 - z.1.length) ?_ ?_
 ·refine Again.by ([],d) ⟨⟨nofun,nofun⟩,zle _⟩ ?_
  repeat' first|apply S0;conv=>whnf|refine Vo ?_|exact T0|(rfl)|refine Vm ?_ ?_
 ·intro ⟨l,d⟩ ⟨hl,hi⟩;dsimp only at hl hi ⊢
  repeat' first|apply S0;conv=>whnf|refine Vb ?_|refine W6 ?_|(refine Br.d (fun h=>?_) fun h=>?_)|(refine CallOK.io1 (g:=29) (Step.out ?_))|(refine Met.by (g:=29) (party_ct _ _ (by assumption) _) ?_;rintro q outs ⟨p,d,hp,rfl,rfl⟩)
  ·refine Again.by (l ++ [⟨p.n,1+x,p.sr,p.rows⟩],d) ⟨⟨hl.snoc hp,by simp;omega⟩,by simp;omega⟩ ?_
   repeat' first|apply S0;conv=>whnf|refine Vo ?_|exact T0|(simp;done)|(exact app1 Pt.l Pt.z ite_pt l _)|refine Vm ?_ ?_
  ·refine Lf3.by l (1+x) d ⟨hl,by omega,by omega,by omega⟩ ?_
   repeat' first|apply S0;conv=>whnf|exact T0|exact T1|refine T2 ?_ ?_
end Kx
open Go Sx Go.Proofs
namespace Kx
def exN (x:Ex):List Int:=[x.u,x.h,x.c,x.l]
def v4 (l:List Int):D:=.vec 4 fun i=>i64 (l.getD i 0)
theorem all4 {p:Nat->Prop} (h0:p 0) (h1:p 1) (h2:p 2) (h3:p 3):∀ i,i<4->p i
 | 0,_=>h0| 1,_=>h1| 2,_=>h2| 3,_=>h3| i+4,h=>absurd h (by omega)
theorem numbers_ct (x:Ex):Cr 43 [.agg x.d] (v4 (exN x)):=by
 refine .det (De Tryz.func43 [] [] ?_)
 repeat' first|apply S0;conv=>whnf|exact T0|(exact all4 rfl rfl rfl rfl)|refine T2 ?_ ?_|refine Vm ?_ ?_
theorem most_ct:Cr 135 [] (v4 [64,64,512,1000]):=by
 refine .det (De Tryz.func135 [] [] ?_)
 repeat' first|apply S0;conv=>whnf|exact T0|(exact all4 rfl rfl rfl rfl)|refine T2 ?_ ?_|refine Vm ?_ ?_
def inB (a b:List Int):Bool:=(List.range 4).all fun i=>decide (b.getD i 0<=a.getD i 0)
theorem inB_T {a b:List Int} (h:∀ j,j<4->b.getD j 0<=a.getD j 0):inB a b=true:=List.all_eq_true.2 fun j hj=>decide_eq_true (h j (List.mem_range.1 hj))
theorem inB_F {a b:List Int} {j:Nat} (hj:j<4) (h:a.getD j 0<b.getD j 0):inB a b=false:=by
 rw [inB,List.all_eq_false];exact ⟨j,List.mem_range.2 hj,by simp only [decide_eq_true_eq];omega⟩
theorem within_ct (a b:List Int):Cr 42 [v4 a,v4 b] (.bool (inB a b)):=by
 refine .det (De Tryz.func42 [] [] ?_)
 repeat' first|apply S0;conv=>whnf
 refine Lw [] [] (α:=Nat) (fun i=>[(2,.loc 0 0),(7,v4 b),(8,i64 i)]) (fun i=>[(0,.vec 4 fun i=>i64 (a.getD i 0))]) 1 (fun i=>i<=4/\∀ j,j<i->b.getD j 0<=a.getD j 0) (fun i=>4 - i) ?_ ?_
 ·refine Again.by 0 ⟨zle _,nofun⟩ ?_
  repeat' first|apply S0;conv=>whnf|refine Vo ?_|exact T0|(exact fun _ _=>⟨rfl,rfl⟩)|refine Vm ?_ ?_
 ·intro i ⟨hi,hp⟩
  have ei:0+(i:Int).toNat*(Γ.get 3).size=i:=by show 0+(i:Int).toNat*1=i;omega
  repeat' first|apply S0;conv=>whnf|refine Vo ?_|exact T0|refine W6 ?_|(refine Br.d (fun h=>?_) fun h=>?_)|refine T2 ?_ ?_
  ·rw [ei] at h;exact (inB_F (j:=i) (by omega) h).symm
  ·rw [ei] at h
   refine Again.by (i+1) ⟨⟨by omega,fun j hj=>?_⟩,by omega⟩ ?_
   ·rcases Nat.lt_or_eq_of_le (Nat.le_of_lt_succ hj) with h1 | rfl
    ·exact hp j h1
    ·exact Int.not_lt.1 h
   repeat' first|apply S0;conv=>whnf|refine Vo ?_|exact T0|(exact fun _ _=>⟨rfl,rfl⟩)|refine Vm ?_ ?_
  ·exact (inB_T fun j hj=>hp j (by omega)).symm
def z4:List Int:=[0,0,0,0]
def exGo:List Ex->Int->Int
 | [],_=>0
 | x :: l,i=>if x.f≠i then 2 else if inB [64,64,512,1000] (exN x)=false then 2 else if inB (exN x) z4=false then 2 else exGo l (i+1)
def exChk (l:List Ex):Int:=if l.length<1\/5<l.length then 8 else exGo l 0
theorem exGo_step (l:List Ex) (i:Nat) (h:i<l.length):exGo (l.drop i) i=if (l.getD i Ex.z).f≠i then 2 else if inB [64,64,512,1000] (exN (l.getD i Ex.z))=false then 2 else if inB (exN (l.getD i Ex.z)) z4=false then 2 else exGo (l.drop (i+1)) ((i+1:Nat):Int):=by
 rw [drop_step l Ex.z i h];rfl
theorem within0_ct (a:List Int):Cr 42 [v4 a,.vec 4 fun _=>.int .i64 0] (.bool (inB a z4)):=by
 have h:=within_ct a z4
 have e:v4 z4 = .vec 4 fun _=>.int .i64 0:=congrArg (D.vec 4) (funext fun i=>by
  match i with
  | 0=>rfl| 1=>rfl| 2=>rfl| 3=>rfl
  | i+4=>rfl)
 rw [e] at h;exact h
theorem acheck_ct (l:List Ex):Cr 80 [exs l] (i64 (exChk l)):=by
 refine .det (De Tryz.func80 ord80 [] ?_)
 repeat' first|apply S0;conv=>whnf|exact T0|(refine Br.d (fun h=>?_) fun h=>?_)|refine Br.swap ?_|refine T2 ?_ ?_
 ·rw [exChk,if_pos (by omega)]
 ·rw [exChk,if_pos (by omega)]
 ·have he:exChk l=exGo l 0:=by rw [exChk,if_neg (by omega)]
  refine Lw ord80 [] (α:=Nat) (fun i=>[(0,exs l),(14,exs l),(15,i64 l.length),(16,i64 i)]) (fun i=>[]) 0 (fun i=>i<=l.length/\exGo l 0=exGo (l.drop i) i) (fun i=>l.length - i) ?_ ?_
  ·refine Again.by 0 ⟨zle _,rfl⟩ ?_
   repeat' first|apply S0;conv=>whnf|refine Vo ?_|exact T0
  ·intro i ⟨hi,hv⟩
   have hs:=fun h:i<l.length=>he.trans (hv.trans (exGo_step l i h))
   repeat' first|apply S0;conv=>whnf|refine Vo ?_|exact T0|refine W6 ?_|(exact fun _ _=>rfl)|(refine M0 (within0_ct _) ?_)|(refine M0 (within_ct _ _) ?_)|(refine Br.d (fun h=>?_) fun h=>?_)|refine Br.swap ?_|refine Br.bnot ?_|(refine Bm (fun h=>?_) fun h=>?_)|refine T2 ?_ ?_|refine K0 ?_|refine K1 ?_|(refine M0 (g:=43) (numbers_ct _) ?_)|(refine M0 (g:=135) (most_ct) ?_)|refine Vm ?_ ?_
   all_goals try simp only [tnc] at *
   all_goals try
    rw [hs (by omega)];clear he hv hs;simp [-List.getD_eq_getElem?_getD, *]
    done
   all_goals try
    refine Again.by (i+1) ⟨⟨by omega,?_⟩,by omega⟩ ?_
    ·rw [hv,exGo_step l i (by omega)];clear he hv hs;simp [-List.getD_eq_getElem?_getD, *]
    repeat' first|apply S0;conv=>whnf|refine Vo ?_|exact T0
    done
   rw [he,hv,ddl (by omega)];rfl
def exTwo (a b:List Ex):Int:=if exChk a≠0 then exChk a else if exChk b≠0 then exChk b else if a.length≠b.length then 8 else 0
theorem acheck2_ct (a b:List Ex):Cr 41 [exs a,exs b] (i64 (exTwo a b)):=by
 refine .det (De Tryz.func41 [] [] ?_)
 repeat' first|apply S0;conv=>whnf|exact T0|(refine Br.d (fun h=>?_) fun h=>?_)|refine Br.bnot ?_|refine T2 ?_ ?_|refine K0 ?_|(refine M0 (g:=80) (acheck_ct _) ?_)
 all_goals simp only [exTwo]
 ·rw [if_neg (by omega),if_neg (by omega),if_neg (by omega)]
 ·rw [if_neg (by omega),if_neg (by omega),if_pos (by omega)]
 ·rw [if_neg (by omega),if_pos (by omega)]
 ·rw [if_pos (by omega)]
def admGo:List Ex->List Ex->Int
 | _,[]=>0| [],_=>0
 | b :: B,x :: l=>if inB (exN b) (exN x)=true then admGo B l else 11
def admE (B l:List Ex):Int:=if exTwo B l≠0 then exTwo B l else admGo B l
theorem admGo_step (B l:List Ex) (i:Nat) (h:i<l.length) (hB:i<B.length):admGo (B.drop i) (l.drop i)=if inB (exN (B.getD i Ex.z)) (exN (l.getD i Ex.z))=true then admGo (B.drop (i+1)) (l.drop (i+1)) else 11:=by
 rw [drop_step l Ex.z i h,drop_step B Ex.z i hB];rfl
theorem exTwo_len {a b:List Ex} (h:exTwo a b=0):a.length=b.length:=by
 unfold exTwo at h;split at h
 ·omega
 ·split at h
  ·omega
  ·split at h
   ·omega
   ·rename_i h1;exact Classical.not_not.1 h1
theorem admit_ct (B l:List Ex) (hl:l.length<=1000):Cr 15 [exs B,exs l] (i64 (admE B l)):=by
 refine .det (De Tryz.func15 ord15 [] ?_)
 repeat' first|apply S0;conv=>whnf|exact T0|(refine Br.d (fun h=>?_) fun h=>?_)|refine Br.bnot ?_|refine T2 ?_ ?_|refine K0 ?_|(refine M0 (g:=41) (acheck2_ct _ _) ?_)
 ·have he:admE B l=admGo B l:=by rw [admE,if_neg (by omega)]
  have hn:=exTwo_len ‹exTwo B l=0›;refine Lw ord15 [] (α:=Nat) (fun i=>[(0,exs B),(14,exs l),(15,i64 l.length),(16,i64 i)]) (fun i=>[]) 0 (fun i=>i<=l.length/\admGo B l=admGo (B.drop i) (l.drop i)) (fun i=>l.length - i) ?_ ?_
  ·refine Again.by 0 ⟨zle _,rfl⟩ ?_
   repeat' first|apply S0;conv=>whnf|refine Vo ?_|exact T0
  ·intro i ⟨hi,hv⟩
   repeat' first|apply S0;conv=>whnf|refine Vo ?_|exact T0|refine W6 ?_|(exact fun _ _=>rfl)|(refine M0 (within_ct _ _) ?_)|(refine Br.d (fun h=>?_) fun h=>?_)|refine Br.bnot ?_|(refine Bm (fun h=>?_) fun h=>?_)|refine T2 ?_ ?_|refine K1 ?_|(refine M0 (g:=43) (numbers_ct _) ?_)|refine Vm ?_ ?_
   all_goals try simp only [tnc] at *
   ·refine Again.by (i+1) ⟨⟨by omega,by rw [hv,admGo_step B l i (by omega) (by omega),if_pos h]⟩,by omega⟩ ?_
    repeat' first|apply S0;conv=>whnf|refine Vo ?_|exact T0
   ·rw [he,hv,admGo_step B l i (by omega) (by omega),if_neg (by rw [h];decide)]
   ·rw [he,hv,ddl (show l.length<=i by omega)]
    cases List.drop i B<;>rfl
 ·rw [admE,if_pos (by omega)]
theorem awithin_ct (B l:List Ex) (hl:l.length<=1000):Cr 16 [exs B,exs l] (.bool (decide (admE B l=0))):=by
 refine .det (De Tryz.func16 [] [] ?_)
 repeat' first|apply S0;conv=>whnf|exact T0|refine T2 ?_ ?_|refine K0 ?_|(refine M0 (g:=15) (admit_ct _ _ (by omega)) ?_)
end Kx
open Go Sx Go.Proofs
namespace Kx
theorem idxE_ct:Cr 241 [.nil,.fn 172 []] (i64 (-1)):=by
 refine .det (De Tryz.func241 [] [] ?_)
 repeat' first|apply S0;conv=>whnf
 refine Lw [] [] (α:=Unit) (fun i=>[(0,.nil),(1,.fn 172 []),(7,i64 0),(8,i64 0)]) (fun i=>[]) 0 (fun i=>True) (fun i=>0) ?_ ?_
 ·refine Again.by () trivial ?_
  repeat' first|apply S0;conv=>whnf|refine Vo ?_|exact T0|refine Cho.l ?_|(refine Vc.mk ⟨rfl,rfl⟩ (Step.out ?_))
 ·intro i hi
  repeat' first|apply S0;conv=>whnf|exact T0|refine B0 ?_|refine T2 ?_ ?_
theorem conE_ct:Cr 171 [.nil,.fn 172 []] (.bool false):=by
 refine .det (De Tryz.func171 [] [] ?_)
 repeat' first|apply S0;conv=>whnf|exact T0|(refine M0 idxE_ct ?_)|refine T2 ?_ ?_|refine K0 ?_
theorem dcheck_ct:Cr 111 [.nil] (i64 0):=by
 refine .det (De Tryz.func111 ord111 [] ?_)
 repeat' first|apply S0;conv=>whnf|refine B0 ?_
 refine Lw ord111 [] (α:=Unit) (fun i=>[(0,.nil),(8,.nil),(9,i64 0),(10,i64 0)]) (fun i=>[]) 0 (fun i=>True) (fun i=>0) ?_ ?_
 ·refine Again.by () trivial ?_
  repeat' first|apply S0;conv=>whnf|refine Vo ?_|exact T0
 ·intro i hi
  repeat' first|apply S0;conv=>whnf|exact T0|with_reducible refine Br.ff ?_|refine B0 ?_|(refine M0 conE_ct ?_)|refine T2 ?_ ?_|refine K0 ?_
theorem wfits_ct (x:Int):Cr 186 [i64 x] (.bool (wfB x)):=by
 refine .det (De Tryz.func186 [] [] ?_)
 repeat' first|apply S0;conv=>whnf|exact T0|(refine Br.d (fun h=>?_) fun h=>?_)|refine T2 ?_ ?_
 all_goals (simp [wfB, *];done)
theorem gcheck_ct (lo hi:Int) (h : -65536<=lo/\lo<=hi/\1<=hi/\hi<=65536):Cr 126 [.agg [i64 lo,i64 hi]] (i64 0):=by
 refine .det (De Tryz.func126 [] [] ?_)
 repeat' first|apply S0;conv=>whnf|exact T0|refine B0 ?_|refine Br.swap ?_|refine T2 ?_ ?_
theorem pregs_ct (l:List Int) (h:RegsOk l):Cr 249 [ints l] (.bool true):=by
 have h2:=h.n2;have h4:=h.n4;refine .det (De Tryz.func249 [] [] ?_)
 repeat' first|apply S0;conv=>whnf
 refine Lw [] [] (α:=Nat) (fun i=>[(0,ints l),(5,ints l),(6,i64 l.length),(7,i64 i)]) (fun i=>[]) 0 (fun i=>i<=l.length) (fun i=>l.length - i) ?_ ?_
 ·refine Again.by 0 (zle _) ?_
  repeat' first|apply S0;conv=>whnf|refine Vo ?_|exact T0
 ·intro i hi
  have hb:=fun hl:(i:Int)<l.length=>h.b (l.getD (i:Int).toNat 0) (getD_in (by omega))
  have ha:=fun (hl:(i:Int)<l.length) (h0:0<(i:Int))=>h.lt (i:=i - 1) (by omega)
  repeat' first|apply S0;conv=>whnf|refine Vo ?_|exact T0|refine W6 ?_|refine B0 ?_|(refine Br.d (fun h=>?_) fun h=>?_)|refine Br.swap ?_|refine T2 ?_ ?_
  ·have:=ha (by omega) (by omega);rw [show i - 1+1=i by omega] at this;rw [show ((i:Int) - 1).toNat=i - 1 by omega,tnc] at h;omega
  ·refine Again.by (i+1) ⟨by omega,by omega⟩ ?_
   repeat' first|apply S0;conv=>whnf|refine Vo ?_|exact T0
  ·refine Again.by (i+1) ⟨by omega,by omega⟩ ?_
   repeat' first|apply S0;conv=>whnf|refine Vo ?_|exact T0
  ·exact decide_eq_true (by omega)
theorem pcheck_ct (p:Pj) (h:RegsOk p.r) (h1:1<=p.n) (h4:p.n<=4):Cr 187 [.agg p.f] (i64 0):=by
 refine .det (De Tryz.func187 [] [] ?_)
 repeat' first|apply S0;conv=>whnf|exact T0|with_reducible refine Br.tt ?_|refine B0 ?_|refine Br.swap ?_|refine Br.bnot ?_|refine T2 ?_ ?_|refine K0 ?_|(refine M0 (g:=249) (pregs_ct _ (by assumption)) ?_)
theorem projects_ct (l:List Pj) (hl:PjOk l):Cr 127 [pjs l] (.bool true):=by
 have hn:=hl.n;refine .det (De Tryz.func127 ord127 [] ?_)
 repeat' first|apply S0;conv=>whnf
 refine Lw ord127 [] (α:=Nat) (fun i=>[(0,pjs l),(5,pjs l),(6,i64 l.length),(7,i64 i)]) (fun i=>[]) 0 (fun i=>i<=l.length) (fun i=>l.length - i) ?_ ?_
 ·refine Again.by 0 (zle _) ?_
  repeat' first|apply S0;conv=>whnf|refine Vo ?_|exact T0
 ·intro i hi
  have hp:=fun h:(i:Int)<l.length=>hl.r (l.getD (i:Int).toNat Pj.z) (getD_in (by omega))
  have ha:=fun h:(i:Int)<l.length=>hl.a i (by omega)
  have hb:=fun (h:(i:Int)<l.length) (h0:0<(i:Int))=>hl.a (i - 1) (by omega)
  repeat' first|apply S0;conv=>whnf|refine Vo ?_|exact T0|refine W6 ?_|refine B1 ?_|(refine M0 (pcheck_ct (l.getD (i:Int).toNat Pj.z) (hp (by omega)).1 (hp (by omega)).2.1 (hp (by omega)).2.2) ?_)|(refine Br.d (fun h=>?_) fun h=>?_)|refine Br.swap ?_|refine Br.bnot ?_|refine T2 ?_ ?_|refine K1 ?_
  ·have h8:=ha (by omega);have h9:=hb (by omega) (by omega);rw [show ((i:Int) - 1).toNat=i - 1 by omega,tnc] at h;omega
  ·refine Again.by (i+1) ⟨by omega,by omega⟩ ?_
   repeat' first|apply S0;conv=>whnf|refine Vo ?_|exact T0
  ·refine Again.by (i+1) ⟨by omega,by omega⟩ ?_
   repeat' first|apply S0;conv=>whnf|refine Vo ?_|exact T0
  ·exact decide_eq_true (by omega)
theorem wcheck_ct (p:Int) (a b:List Int) (hp:wfB p=true) (hl:b.length=a.length) (h1:1<=a.length) (h5:a.length<=5) (ha:∀ x ∈ a,wfB x=true) (hb:∀ x ∈ b,wfB x=true):Cr 125 [.agg [i64 p,ints a,ints b]] (i64 0):=by
 have hpc:=hp ▸ wfits_ct p;refine .det (De Tryz.func125 [] [] ?_)
 repeat' first|apply S0;conv=>whnf|with_reducible refine Br.tt ?_|refine B1 ?_|refine B0 ?_|(refine M0 hpc ?_)|refine Br.swap ?_|refine Br.bnot ?_|refine K0 ?_
 refine Lw [] [] (α:=Nat) (fun i=>[(1,.loc 0 0),(31,i64 a.length),(32,i64 i)]) (fun i=>[(0,.var [i64 p,ints a,ints b])]) 1 (fun i=>i<=a.length) (fun i=>a.length - i) ?_ ?_
 ·refine Again.by 0 (zle _) ?_
  repeat' first|apply S0;conv=>whnf|refine Vo ?_|exact T0
 ·intro i hi
  have ca:=fun h:(i:Int)<a.length=>(ha (a.getD (i:Int).toNat 0) (getD_in (by omega))) ▸ wfits_ct (a.getD (i:Int).toNat 0)
  have cb:=fun h:(i:Int)<a.length=>(hb (b.getD (i:Int).toNat 0) (getD_in (by omega))) ▸ wfits_ct (b.getD (i:Int).toNat 0)
  repeat' first|apply S0;conv=>whnf|refine Vo ?_|exact T0|refine W6 ?_|with_reducible refine Br.tt ?_|(refine M0 (ca (by omega)) ?_)|(refine M0 (cb (by omega)) ?_)|(refine Br.d (fun h=>?_) fun h=>?_)|refine Br.swap ?_|refine Br.bnot ?_|refine T2 ?_ ?_|refine K0 ?_
  all_goals try
   refine Again.by (i+1) ⟨by omega,by omega⟩ ?_
   repeat' first|apply S0;conv=>whnf|refine Vo ?_|exact T0
   done
end Kx
open Go Sx Go.Proofs
namespace Kx
theorem Stg.ok.ps {S:Stg} (h:S.ok):PsOk S.s.f.length fun i=>S.P.getD i Pm.z :=
 ⟨fun i hi=>(h.P i (by rw [h.Pn];exact hi)).1,fun i hi=>(h.P i (by rw [h.Pn];exact hi)).2.1,fun i hi=>(h.P i (by rw [h.Pn];exact hi)).2.2⟩
theorem echeckS_ct (S:Stg) (hS:S.ok):Cr 32 [S.s.d,.tab 3 S.P.length (pmsL S.P)] (i64 0):=by
 rw [hS.Pn];exact echeck_ct S.s hS.s.ok _ hS.ps
theorem encodings_ct (S:Stg) (hS:S.ok):Cr 122 [S.d] (i64 0):=by
 have hs:=hS.s.ok;have hK1:=hS.K1;have hK5:=hS.K5;have hk:=hS.K;have hsn:=hS.simn;have n5:=hs.n5;refine .det (De Tryz.func122 [] [] ?_)
 repeat' first|apply S0;conv=>whnf|refine B1 ?_|refine B0 ?_|(refine M0 (echeckS_ct S hS) ?_)|(refine M0 (bcheckK_ct S.s hs S.K (by omega) hk) ?_)|refine Br.swap ?_|refine Br.bnot ?_|refine K0 ?_
 refine Lw [] [] (α:=Nat) (fun i=>[(48,nils S.s.f.length),(49,i64 S.s.f.length),(50,i64 i)]) (fun i=>[]) 0 (fun i=>i<=S.s.f.length) (fun i=>S.s.f.length - i) ?_ ?_
 ·refine Again.by 0 (zle _) ?_
  repeat' first|apply S0;conv=>whnf|refine Vo ?_|exact T0
 ·intro i hi
  repeat' first|apply S0;conv=>whnf|refine Vo ?_|exact T0|refine W6 ?_|refine B1 ?_|(refine Br.d (fun h=>?_) fun h=>?_)|refine Br.bnot ?_|refine T2 ?_ ?_|refine K0 ?_|(refine M0 (g:=111) (dcheck_ct) ?_)
  all_goals try
   refine Again.by (i+1) ⟨by omega,by omega⟩ ?_
   repeat' first|apply S0;conv=>whnf|refine Vo ?_|exact T0
   done
theorem wfB_T {x:Int} (h : -65536<=x/\x<=65536):wfB x=true:=by simp only [wfB,bat,decide_eq_true_eq];exact h
theorem exGo_ok {n:Nat} {B:List Ex} (h:BdOk n B):∀ k,k<=n->exGo (B.drop (n - k)) ((n - k:Nat):Int)=0
 | 0,_=>by rw [ddl (by rw [h.len];omega)];rfl
 | k+1,hk=>by
   have hl:=h.len;obtain ⟨b1,b2,b3,b4,b5⟩:=h.b (n - (k+1)) (by omega);rw [exGo_step B (n - (k+1)) (by omega),if_neg (by omega),if_neg,if_neg,show n - (k+1)+1=n - k by omega]
   ·exact exGo_ok h k (by omega)
   ·rw [inB_T]
    ·decide
    ·exact all4 b2.1 b3.1 b4.1 b5.1
   ·rw [inB_T]
    ·decide
    ·exact all4 b2.2 b3.2 b4.2 b5.2
theorem exChk_ok {n:Nat} {B:List Ex} (h:BdOk n B) (h1:1<=n) (h5:n<=5):exChk B=0:=by
 have hl:=h.len;rw [exChk,if_neg (by omega)];have:=exGo_ok h n (Nat.le_refl _);rw [Nat.sub_self] at this;exact this
theorem idxN_ct (l:List Int) (f:Nat) (hl:l.length<=1000) (hp:∀ x ∈ l,Cr f [i64 x] (.bool false)):Cr 185 [ints l,.fn f []] (i64 (-1)):=by
 refine .det (De Tryz.func185 [] [] ?_)
 repeat' first|apply S0;conv=>whnf
 refine Lw [] [] (α:=Nat) (fun i=>[(0,ints l),(1,.fn f []),(7,i64 l.length),(8,i64 i)]) (fun i=>[]) 0 (fun i=>i<=l.length) (fun i=>l.length - i) ?_ ?_
 ·refine Again.by 0 (zle _) ?_
  repeat' first|apply S0;conv=>whnf|refine Vo ?_|exact T0|refine Cho.l ?_|(refine Vc.mk ⟨rfl,rfl⟩ (Step.out ?_))
 ·intro i hi
  have hc:=fun h:(i:Int)<l.length=>hp (l.getD (i:Int).toNat 0) (getD_in (by omega))
  repeat' first|apply S0;conv=>whnf|refine Vo ?_|exact T0|refine W6 ?_|with_reducible refine Br.ff ?_|(refine M0 (hc (by omega)) ?_)|(refine Br.d (fun h=>?_) fun h=>?_)|refine T2 ?_ ?_|refine K0 ?_
  all_goals try
   refine Again.by (i+1) ⟨by omega,by omega⟩ ?_
   repeat' first|apply S0;conv=>whnf|refine Vo ?_|exact T0|refine Cho.l ?_|(refine Vc.mk ⟨rfl,rfl⟩ (Step.out ?_))
   done
theorem conN_ct (l:List Int) (f:Nat) (hl:l.length<=1000) (hp:∀ x ∈ l,Cr f [i64 x] (.bool false)):Cr 123 [ints l,.fn f []] (.bool false):=by
 refine .det (De Tryz.func123 [] [] ?_)
 repeat' first|apply S0;conv=>whnf|exact T0|(refine M0 (idxN_ct l f hl hp) ?_)|refine T2 ?_ ?_|refine K0 ?_
theorem simx_ct (x:Int) (h:0<=x/\x<=1000):Cr 124 [i64 x] (.bool false):=by
 refine .det (De Tryz.func124 [] [] ?_)
 repeat' first|apply S0;conv=>whnf|exact T0|refine B0 ?_|refine Br.swap ?_|refine T2 ?_ ?_
 exact decide_eq_false (by omega)
theorem psetting_ct (S:Stg) (hS:S.ok):Cr 77 [S.d] (i64 0):=by
 have hs:=hS.s.ok;have n1:=hs.n1;have n5:=hs.n5;have hBl:=hS.B.len;have hag:=hS.agn;have hpn:=hS.pj.n;have hB:=exChk_ok hS.B n1 n5;have hw:=wcheck_ct S.pr S.ag S.di (wfB_T (by rw [hS.pr];omega)) (by rw [hS.din,hS.agn]) (by omega) (by omega) (fun x hx=>wfB_T (by have:=hS.ag x hx;omega)) (fun x hx=>wfB_T (by have:=hS.di x hx;omega));have hth:=gcheck_ct S.lo S.hi (by have:=hS.lo;have:=hS.hi;omega);have hba:=hB ▸ acheck_ct S.B
 have hsi:=conN_ct S.sim 124 (by rw [hS.simn];omega) fun x hx=>simx_ct x (hS.sim x hx)
 refine .det (De Tryz.func77 [] [] ?_)
 repeat' first|apply S0;conv=>whnf|exact T0|with_reducible refine Br.tt ?_|with_reducible refine Br.ff ?_|refine B1 ?_|(refine M0 hsi ?_)|(refine M0 hw ?_)|(refine M0 hth ?_)|(refine M0 hba ?_)|(refine M0 (encodings_ct S hS) ?_)|(refine M0 (projects_ct S.pj hS.pj) ?_)|refine Br.bnot ?_|refine T2 ?_ ?_|refine K0 ?_
end Kx
open Go Sx Go.Proofs
namespace Kx
def ptE (p:Pt):Int:=if p.n<0\/4<=p.n\/p.e<0\/65536<p.e\/p.sr<0\/1048576<p.sr then 53 else 0
theorem ptE_bad {p:Pt} (h:p.n<0\/4<=p.n\/p.e<0\/65536<p.e\/p.sr<0\/1048576<p.sr):i64 53=i64 (ptE p)/\([]:List D) = []:=⟨by rw [ptE,if_pos h],rfl⟩
theorem ptE_good {p:Pt} (h:¬(p.n<0\/4<=p.n\/p.e<0\/65536<p.e\/p.sr<0\/1048576<p.sr)):i64 0=i64 (ptE p)/\([]:List D) = []:=⟨by rw [ptE,if_neg h],rfl⟩
theorem ptcheck_ct (S:Stg) (hS:S.ok) (p:Pt) (hp:PtOk S.s p):Cr 74 [S.d,p.d] (i64 (ptE p)):=by
 have hs:=hS.s.ok;have hv0:=hp.v;have hrw:=valid_ok hp.v;have hrn:=hrw.n;have hfine:=(valid_zero.1 hp.v).2.1;refine De Tryz.func74 [] [] ?_
 repeat' first|apply S0;conv=>whnf|refine B1 ?_|(exact ptE_bad (by omega))|(refine M0 (psetting_ct S hS) ?_)|(refine M0 (valid_ct_c p.rows hrw) ?_)|(refine Br.d (fun h=>?_) fun h=>?_)|refine Br.swap ?_|refine Br.bnot ?_|(refine CallOK.ctF (g:=30) (Step.out ?_))|refine K0 ?_
 refine Lw [] [] (α:=Nat) (fun i=>[(2,.loc 0 0),(3,.loc 1 0),(50,rws p.rows),(51,i64 p.rows.length),(52,i64 i)]) (fun i=>[(0,.var S.l),(1,.var p.l)]) 2 (fun i=>i<=p.rows.length) (fun i=>p.rows.length - i) ?_ ?_
 ·refine Again.by 0 (zle _) ?_
  repeat' first|apply S0;conv=>whnf|refine Vo ?_|exact T0
 ·intro i hi
  have hm:=fun h:(i:Int)<p.rows.length=>(getD_in (z:=Rw.z) (l:=p.rows) (i:=(i:Int).toNat) (by omega))
  have hv:=fun (h:(i:Int)<p.rows.length) (h0:¬(p.rows.getD (i:Int).toNat Rw.z).ver=0)=>hp.n _ (hm h) h0
  have hc:=fun (h:(i:Int)<p.rows.length) (h0:¬(p.rows.getD (i:Int).toNat Rw.z).ver=0)=>rCheck_ct S.s hs ⟨(p.rows.getD (i:Int).toNat Rw.z).id,(p.rows.getD (i:Int).toNat Rw.z).ver,(p.rows.getD (i:Int).toNat Rw.z).vals⟩ (hv h h0)
  clear hv
  repeat' first|apply S0;conv=>whnf|refine Vo ?_|refine W6 ?_|refine B1 ?_|(exact ptE_good (by omega))|(refine M0 (hc (by omega) (by assumption)) ?_)|(refine Br.d (fun h=>?_) fun h=>?_)|refine Br.bnot ?_|refine K0 ?_
  all_goals try
   refine Again.by (i+1) ⟨by omega,by omega⟩ ?_
   repeat' first|apply S0;conv=>whnf|refine Vo ?_|exact T0
   done
theorem epochKey_ct (k:Int × Int) (e:Nat) (he:e<=65536):Cr 13 [.agg [u64 k.1,u64 k.2],i64 e] (.agg [u64 (keyD k ([101,112,111,99,104,32] ++ itS e)).1,u64 (keyD k ([101,112,111,99,104,32] ++ itS e)).2]):=by
 have h1:=itoa_ct e (by omega);have hl:=itS_len e (by omega);refine .det (De Tryz.func13 ord13 [] ?_)
 repeat' first|apply S0;conv=>whnf|exact T0|(refine M0 h1 ?_)|(refine M0 (derive_ct k ([101,112,111,99,104,32] ++ itS e) (by simp;omega)) ?_)|refine T2 ?_ ?_|refine K1 ?_|refine Vm ?_ ?_
 show 6+_<=_
 omega
end Kx
open Go Sx Go.Proofs
namespace Kx
def curR (l:List Rw):List Rc:=(l.filter cur1).map fun r=>⟨r.id,r.ver,r.vals⟩
theorem getD_map' {α β:Type} (f:α->β) (l:List α) (i:Nat) (d:α):(l.map f).getD i (f d)=f (l.getD i d):=by
 rw [gDe,gDe,List.getElem?_map]
 cases l[i]?<;>rfl
theorem recs_rcs (l:List Rw):recs (curs l)=rcs (curR l):=by
 unfold recs rcs
 have e:(curs l).length=(curR l).length:=by simp only [curs,curR,List.length_map]
 rw [e]
 congr 1
 funext i
 show recF ((curs l).getD i ((fun r:Rw=>(r.id,r.ver,r.vals)) Rw.z))=((curR l).getD i ((fun r:Rw=>(⟨r.id,r.ver,r.vals⟩:Rc)) Rw.z)).l
 rw [curs,curR,getD_map',getD_map'];rfl
theorem curR_ok {s:Sc} {p:Pt} (h:PtOk s p):RsOk s (curR p.rows):=by
 obtain ⟨h1,h2,h3⟩:=valid_zero.1 h.v
 have hp:(curR p.rows).Pairwise fun a b=>a.id<b.id:=by
  rw [curR,List.pairwise_map];exact List.Pairwise.filter _ h3
 refine ⟨?_,?_,?_⟩
 ·rw [curR,List.length_map];exact Nat.le_trans (List.length_filter_le _ _) h1
 ·intro r hr;obtain ⟨x,hx,rfl⟩:=List.mem_map.1 hr;obtain ⟨hx,hc⟩:=List.mem_filter.1 hx;refine h.n x hx ?_;simp only [cur1,bat,Bool.not_eq_true',decide_eq_false_iff_not] at hc;exact hc.1
 ·intro i hi;have:=List.pairwise_iff_getElem.1 hp i (i+1) (by omega) hi (by omega);simpa only [gDe,List.getElem?_eq_getElem hi,List.getElem?_eq_getElem (show i<(curR p.rows).length by omega),Option.getD_some] using this
end Kx
