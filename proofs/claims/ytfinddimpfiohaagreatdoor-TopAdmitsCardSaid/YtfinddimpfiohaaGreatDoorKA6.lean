/-
  Addresses: their normal forms.
  No condition beyond those written in each theorem.
-/
import Derived.Test.YtfinddimpfiohaaGreatDoorKA5
import Derived.Test.YtfinddimpfiohaaGreatDoorFD
import Derived.Test.YtfinddimpfiohaaGreatDoorKA1
set_option linter.unusedSimpArgs false
set_option linter.unusedVariables false
set_option maxRecDepth 4000
open Go Sx Go.Proofs
namespace Kx
theorem fromn_ct (p:Pr) (s:Str):Cr 267 [pr p,.ref [.str s]] (.bool (decide (p.1=s))):=by
 refine .det (De Tryz.func267 [] [] ?_)
 repeat' first|refine S0 ?_;conv=>whnf|exact T0|refine T2 ?_ ?_
theorem indexn_ct (l:List Pr) (s:Str) (hl:l.length<=1000000000):Cr 146 [prs l,.fn 267 [.ref [.str s]]] (i64 (idxF (fun p:Pr=>decide (p.1=s)) l)):=by
 refine .det (De Tryz.func146 [] [] ?_)
 repeat' first|refine S0 ?_;conv=>whnf
 refine Lw [] [] (α:=Nat) (fun i=>[(0,prs l),(1,.fn 267 [.ref [.str s]]),(7,i64 l.length),(8,i64 i)]) (fun i=>[]) 0 (fun i=>i<=l.length/\(l.take i).any (fun p:Pr=>decide (p.1=s))=false) (fun i=>l.length - i) ?_ ?_
 ·refine Again.by 0 ⟨zle _,rfl⟩ ?_
  repeat' first|refine S0 ?_;conv=>whnf|refine Vo ?_|exact T0|refine Cho.r ?_
 ·intro i ⟨hi,hv⟩
  repeat' first|refine S0 ?_;conv=>whnf|refine Vo ?_|exact T0|refine W6 ?_|(refine M0 (fromn_ct _ _) ?_)|(refine Br.d (fun h=>?_) fun h=>?_)|refine T2 ?_ ?_|refine K0 ?_
  all_goals try simp only [tnc] at *
  ·rw [idxF_at (fun p:Pr=>decide (p.1=s)) ([],[]) l i (by omega) hv (decide_eq_true h)]
  ·refine Again.by (i+1) ⟨⟨by omega,by rw [any_take _ l ([],[]) i (by omega),hv,show decide ((l.getD i ([],[])).1=s)=false from decide_eq_false h];rfl⟩,by omega⟩ ?_
   repeat' first|refine S0 ?_;conv=>whnf|refine Vo ?_|exact T0|refine Cho.r ?_
  ·rw [idxF_no];rw [show i=l.length by omega,List.take_length] at hv;exact hv
theorem set_str (l:List Str) (k:Nat) (x:Str) {m:List D} (hm:m = [.str x]):l.length=(l.set k x).length/\∀ i,i<(l.set k x).length->iteL (i=k) m [.str (l.getD i [])] = [.str ((l.set k x).getD i [])] :=
 set_one (fun s:Str=>[D.str s]) [] (fun _ _=>rfl) l k x hm
theorem set_strN {l:List Str} {n:Nat} (hn:l.length=n) (k:Nat) (x:Str) {m:List D} (hm:m = [.str x]):n=n/\∀ i,i<n->iteL (i=k) m [.str (l.getD i [])] = [.str ((l.set k x).getD i [])] :=
 ⟨rfl,fun i hi=>(set_str l k x hm).2 i (by rw [List.length_set];omega)⟩
theorem cat_arg {g:FuncId} {R:D->List D->Prop} (A B:List Str) (H:Ct Tryz.prog g [strs (A ++ B)] R):Ct Tryz.prog g [.tab 1 (A.length+B.length) fun i=>iteL (i<A.length) [.str (A.getD i [])] [.str (B.getD (i - A.length) [])]] R :=
 H.arg ⟨rfl,app_all (fun s:Str=>[D.str s]) [] (fun _ _=>rfl) A B,trivial⟩
theorem anorm_ct (r:Ru) (s:Str) (hr:Ru.ok r) (hs:s.length<=10000):Cr 208 [ruD r,.str s] (.tup [.str (addrO r s),i64 (addrE r s)]):=by
 have hfo:=foldO_le s;have htc:(toks (foldO s)).length<=1+(foldO s).length:=toks_count (foldO s) [];have hsl:=hr.s;refine .det (De Tryz.func208 [] [] ?_)
 repeat' first|refine S0 ?_;conv=>whnf|exact T0|(refine M0 (check_ct r hr) ?_)|(refine Br.d (fun h=>?_) fun h=>?_)|refine Br.bnot ?_|refine T2 ?_ ?_|refine K0 ?_|(refine M0 (g:=259) (fold_ct _ (by first | omega | decide | (simp;done) | (simp;omega))) ?_)|(refine M0 (g:=260) (tokens_ct _ (by first | omega | decide | (simp;done) | (simp;omega))) ?_)
 ·obtain ⟨hb1,hb2,hb3⟩:=addr_bd ‹checkE r=0› hs;have hml:=toks_mem_len (foldO s);have hT:addrL r (toks (foldO s))=addrT r s:=rfl;generalize hTT:toks (foldO s)=T at *;refine Lw [] [] (α:=Nat) (fun i=>[(2,.loc 0 0),(9,.own 1),(31,.own 1),(32,i64 T.length),(33,i64 i)]) (fun i=>[(0,.var [strs r.t,prs r.n,prs r.s]),(1,.arr 9 1 T.length fun j=>[.str ((mapTo (part1 r) T i).getD j [])])]) 2 (fun i=>i<=T.length) (fun i=>T.length - i) ?_ ?_
  ·refine Again.by 0 (zle _) ?_
   rw [mapTo_zero]
   repeat' first|refine S0 ?_;conv=>whnf|refine Vo ?_|exact T0
  ·intro i hi
   have hg:(i:Int)<T.length->(mapTo (part1 r) T i).getD (i:Int).toNat []=T.getD i []:=fun h=>by rw [tnc,mapTo_get _ _ (by omega)]
   have hx:=fun h:(i:Int)<T.length=>hml (T.getD i []) (getD_in (by omega))
   have hlen:=mapTo_len (part1 r) T i
   repeat' first|refine S0 ?_;conv=>whnf|refine Vo ?_|exact noSh_int _ _|refine W6 ?_|(refine M0 (indexn_ct r.s _ (by omega)) ?_)|(refine M0 (addrshort_ct _ (by rw [hg ‹_›];have:=hx ‹_›;omega)) ?_)|(refine Vc.om ?_ ?_;focus ((have:=idxF_find (fun p:Pr=>decide (p.1=(mapTo (part1 r) T i).getD (i:Int).toNat [])) ([],[]) r.s ‹_›;omega);done))|(refine Br.d (fun h=>?_) fun h=>?_)|(refine Bm (fun h=>?_) fun h=>?_)|refine K0 ?_|(refine M0 (g:=268) (numeral_ct _) ?_)|refine Vm ?_ ?_
   ·rw [hg ‹_›] at *
    refine Again.by (i+1) ⟨by omega,by omega⟩ ?_
    rw [mapTo_step _ _ (by omega)]
    have e:shortS (T.getD i [])=part1 r (T.getD i []):=by rw [part1,if_pos ‹_›]
    repeat' first|refine S0 ?_;conv=>whnf|refine Vo ?_|exact T0|(exact set_strN hlen _ _ (congrArg (fun x=>[D.str x]) e))|refine Vm ?_ ?_
   ·rw [hg ‹_›] at *
    have hn:¬num (T.getD i [])=true:=by rw [‹num _=false›];simp
    refine Again.by (i+1) ⟨by omega,by omega⟩ ?_
    rw [mapTo_step _ _ (by omega)]
    have e:(pGet r.s (idxF (fun p:Pr=>decide (p.1=T.getD i [])) r.s).toNat).2=part1 r (T.getD i []):=by rw [part1,if_neg hn,replS_at ‹_›]
    repeat' first|refine S0 ?_;conv=>whnf|refine Vo ?_|exact T0|(exact set_strN hlen _ _ (congrArg (fun x=>[D.str x]) e))|refine Vm ?_ ?_
   ·rw [hg ‹_›] at *
    have hn:¬num (T.getD i [])=true:=by rw [‹num _=false›];simp
    refine Again.by (i+1) ⟨by omega,by omega⟩ ?_
    rw [mapTo_same _ _ (by omega) (by rw [part1,if_neg hn,replS_no (by omega)])]
    repeat' first|refine S0 ?_;conv=>whnf|refine Vo ?_|exact T0
   ·have hA:others (T.map (part1 r)) ++ numbers (T.map (part1 r))=addrT r s:=by rw [addr_map ‹checkE r=0›,hT]
    have hLl:(T.map (part1 r)).length=T.length:=by simp
    rw [mapTo_end _ _ (by omega),<-hLl];generalize T.map (part1 r)=L at *;have hp:=parts_len L
    have hAl:(addrT r s).length=L.length:=by rw [<-hA,lap,hp]
    repeat' first|refine S0 ?_;conv=>whnf|refine Vb ?_|exact T0|exact noSh_str _|(exact noSh_two _ _ _)|(refine M0 (cat_arg _ _ (join1_ct (others L ++ numbers L) (by rw [hA];omega) (by rw [hA];omega))) ?_)|(refine Br.d (fun h=>?_) fun h=>?_)|refine Br.swap ?_|refine T2 ?_ ?_|refine K0 ?_|(refine M0 (g:=270) (part_ct _ (by first | omega | decide | (simp;done) | (simp;omega))) ?_)|refine Vm ?_ ?_
    all_goals rw [hA] at *
    all_goals first
     | exact (addrE_big ‹checkE r=0› ‹foldE s=0› (by omega)).1
     | exact (addrE_big ‹checkE r=0› ‹foldE s=0› (by omega)).2
     | exact (addrE_ok ‹checkE r=0› ‹foldE s=0› (by omega) (by omega)).1
     | exact (addrE_ok ‹checkE r=0› ‹foldE s=0› (by omega) (by omega)).2
 all_goals first
  | exact (addrE_c ‹¬checkE r=0›).1
  | exact (addrE_c ‹¬checkE r=0›).2
  | exact (addrE_f ‹checkE r=0› ‹¬foldE s=0›).1
  | exact (addrE_f ‹checkE r=0› ‹¬foldE s=0›).2
theorem arnorm_ct (r:Ru) (s:Str) (hr:Ru.ok r) (hs:s.length<=10000):Cr 281 [ruD r,.str s] (.tup [.str (addrO r s),i64 (addrE r s)]):=by
 have hfo:=foldO_le s;have htc:(toks (foldO s)).length<=1+(foldO s).length:=toks_count (foldO s) [];have hsl:=hr.s;refine .det (De Tryz.func281 ord281 [] ?_)
 repeat' first|refine S0 ?_;conv=>whnf|exact T0|(refine M0 (rcheck_ct r hr) ?_)|(exact noSh_two _ _ _)|(refine Br.d (fun h=>?_) fun h=>?_)|refine Br.bnot ?_|refine T2 ?_ ?_|refine K0 ?_|(refine M0 (g:=321) (rfold_ct _ (by first | omega | decide | (simp;done) | (simp;omega))) ?_)|(refine M0 (g:=322) (rtokens_ct _ (by first | omega | decide | (simp;done) | (simp;omega))) ?_)|(refine M0 (g:=326) (rparts_ct _ (by first | omega | decide | (simp;done) | (simp;omega))) ?_)|refine Vm ?_ ?_
 ·obtain ⟨hb1,hb2,hb3⟩:=addr_bd ‹checkE r=0› hs;have hml:=toks_mem_len (foldO s);have hA:(others (toks (foldO s))).map (replS r.s) ++ (numbers (toks (foldO s))).map shortS=addrT r s:=rfl;have hp:=parts_len (toks (foldO s));have hAl:(addrT r s).length=(toks (foldO s)).length:=addr_len r _
  have hN:∀ t ∈ numbers (toks (foldO s)),num t=true/\t.length<=(foldO s).length:=fun t ht=>⟨(List.mem_filter.1 ht).2,hml t (List.mem_filter.1 ht).1⟩
  generalize others (toks (foldO s))=A at *;generalize numbers (toks (foldO s))=B at *;refine Lw ord281 [] (α:=Nat) (fun i=>[(2,.loc 0 0),(9,.own 1),(10,.own 2),(11,i64 i)]) (fun i=>[(0,.var [strs r.t,prs r.n,prs r.s]),(1,.arr 9 1 A.length fun j=>[.str ((mapTo (replS r.s) A i).getD j [])]),(2,.arr 9 1 B.length fun j=>[.str (B.getD j [])])]) 3 (fun i=>i<=A.length) (fun i=>A.length - i) ?_ ?_
  ·refine Again.by 0 (zle _) ?_
   rw [mapTo_zero]
   repeat' first|refine S0 ?_;conv=>whnf|refine Vo ?_|exact T0
  ·intro i hi
   have hg:(i:Int)<A.length->(mapTo (replS r.s) A i).getD (i:Int).toNat []=A.getD i []:=fun h=>by rw [tnc,mapTo_get _ _ (by omega)]
   have hlen:=mapTo_len (replS r.s) A i
   repeat' first|refine S0 ?_;conv=>whnf|refine Vo ?_|refine W6 ?_|(refine Br.d (fun h=>?_) fun h=>?_)|refine K1 ?_|(refine M0 (g:=327) (rreplace_ct _ _ (by first | omega | decide | (simp;done) | (simp;omega))) ?_)
   ·rw [hg ‹_›] at *
    refine Again.by (i+1) ⟨by omega,by omega⟩ ?_
    rw [mapTo_step _ _ (by omega)]
    repeat' first|refine S0 ?_;conv=>whnf|refine Vo ?_|exact T0|(exact set_strN hlen _ _ rfl)|refine Vm ?_ ?_
   ·have hAM:(A.map (replS r.s)).length=A.length:=by simp
    rw [mapTo_end _ _ (by omega),<-hAM];generalize A.map (replS r.s)=A' at *
    skip
    refine Lw ord281 [] (α:=Nat) (fun i=>[(9,.own 0),(10,.own 1),(12,i64 i)]) (fun i=>[(0,.arr 9 1 A'.length fun j=>[.str (A'.getD j [])]),(1,.arr 9 1 B.length fun j=>[.str ((mapTo shortS B i).getD j [])])]) 2 (fun i=>i<=B.length) (fun i=>B.length - i) ?_ ?_
    ·refine Again.by 0 (zle _) ?_
     rw [mapTo_zero]
     repeat' first|refine S0 ?_;conv=>whnf|refine Vo ?_|exact T0
    ·intro i hi
     have hg:(i:Int)<B.length->(mapTo shortS B i).getD (i:Int).toNat []=B.getD i []:=fun h=>by rw [tnc,mapTo_get _ _ (by omega)]
     have hx:=fun h:(i:Int)<B.length=>hN (B.getD i []) (getD_in (by omega))
     have hlen:=mapTo_len shortS B i
     repeat' first|refine S0 ?_;conv=>whnf|refine Vo ?_|refine Vb ?_|refine W6 ?_|(refine M0 (rtrimmed_ct _ (by rw [hg ‹_›];have:=(hx ‹_›).2;omega) (by rw [hg ‹_›];exact (hx ‹_›).1)) ?_)|(refine Br.d (fun h=>?_) fun h=>?_)|refine K0 ?_
     ·rw [hg ‹_›] at *
      refine Again.by (i+1) ⟨by omega,by omega⟩ ?_
      rw [mapTo_step _ _ (by omega)]
      repeat' first|refine S0 ?_;conv=>whnf|refine Vo ?_|exact T0|(exact set_strN hlen _ _ rfl)|refine Vm ?_ ?_
     ·have hBM:(B.map shortS).length=B.length:=by simp
      rw [mapTo_end _ _ (by omega),<-hBM];generalize B.map shortS=B' at *
      repeat' first|refine S0 ?_;conv=>whnf|exact T0|exact noSh_str _|(refine M0 (cat_arg _ _ (rjoin_ct (A' ++ B') (by rw [hA];omega) (by rw [hA];omega))) ?_)|(refine Br.d (fun h=>?_) fun h=>?_)|refine Br.swap ?_|refine T2 ?_ ?_|refine Vm ?_ ?_
      all_goals try rw [hA] at *
      all_goals first
       | exact (addrE_big ‹checkE r=0› ‹foldE s=0› (by omega)).1
       | exact (addrE_big ‹checkE r=0› ‹foldE s=0› (by omega)).2
       | exact (addrE_ok ‹checkE r=0› ‹foldE s=0› (by omega) (by omega)).1
       | exact (addrE_ok ‹checkE r=0› ‹foldE s=0› (by omega) (by omega)).2
 all_goals first
  | exact (addrE_c ‹¬checkE r=0›).1
  | exact (addrE_c ‹¬checkE r=0›).2
  | exact (addrE_f ‹checkE r=0› ‹¬foldE s=0›).1
  | exact (addrE_f ‹checkE r=0› ‹¬foldE s=0›).2
theorem anormal_ct (r:Ru) (s:Str) (hr:Ru.ok r) (hs:s.length<=10000):Cr 209 [ruD r,.str s] (.bool (addrB r s)):=by
 refine .det (De Tryz.func209 [] [] ?_)
 repeat' first|refine S0 ?_;conv=>whnf|exact T0|(refine Br.d (fun h=>?_) fun h=>?_)|refine T2 ?_ ?_|refine K0 ?_|(refine M0 (g:=208) (anorm_ct _ _ (by assumption) (by first | omega | decide | (simp;done) | (simp;omega))) ?_)
 ·rw [addrB,decide_eq_true ‹addrE r s=0›,Bool.true_and]
 ·rw [addrB,decide_eq_false ‹¬addrE r s=0›,Bool.false_and]
theorem arnormal_ct (r:Ru) (s:Str) (hr:Ru.ok r) (hs:s.length<=10000):Cr 277 [ruD r,.str s] (.bool (addrB r s)):=by
 refine .det (De Tryz.func277 [] [] ?_)
 repeat' first|refine S0 ?_;conv=>whnf|exact T0|(refine Br.d (fun h=>?_) fun h=>?_)|refine T2 ?_ ?_|refine K0 ?_|(refine M0 (g:=281) (arnorm_ct _ _ (by assumption) (by first | omega | decide | (simp;done) | (simp;omega))) ?_)
 ·rw [addrB,decide_eq_true ‹addrE r s=0›,Bool.true_and]
 ·rw [addrB,decide_eq_false ‹¬addrE r s=0›,Bool.false_and]
end Kx
open Go Sx Go.Proofs
namespace Kx
def anTok (t:Str):Prop:=t≠[]/\∀ x ∈ t,isAn x=true
theorem anTok.tok {t:Str} (h:anTok t):t≠[]/\∀ x ∈ t,x≠32:=⟨h.1,fun x hx=>an_ne (h.2 x hx)⟩
end Kx
open Go Sx Go.Proofs
namespace Kx
def dnum (s:Str):Int:=s.foldl (fun n x=>10*n+((x.toNat:Int) - 48)) 0
def pnum (s:Str):Int:=if s.all isDig=true then dnum s else -1
theorem dnum_step {s:Str} {i:Nat} (h:i<s.length):dnum (s.take (i+1))=10*dnum (s.take i)+(((s.getD i 0).toNat:Int) - 48):=by
 unfold dnum;rw [List.take_add_one,List.foldl_append];simp [List.getElem?_eq_getElem h]
theorem digs_step {s:Str} {i:Nat} (h:i<s.length):(s.take (i+1)).all isDig=((s.take i).all isDig && isDig (s.getD i 0)):=by
 rw [List.take_add_one,List.all_append];simp [List.getElem?_eq_getElem h]
theorem digs_no {s:Str} {i:Nat} (h:i<s.length) (hx:isDig (s.getD i 0)=false):¬s.all isDig=true:=fun ha=>by
 rw [List.all_eq_true] at ha;have:=ha (s.getD i 0) (getD_in h);rw [hx] at this;cases this
theorem isDig_is {x:UInt8}:isDig x=true ↔ 48<=x.toNat/\x.toNat<=57:=by
 unfold isDig;simp [UInt8.le_iff_toNat_le];omega
theorem dnum_bd:∀ (n:Nat) (s:Str),s.length<=n->s.all isDig=true->0<=dnum s/\dnum s<10 ^ n:=by
 intro n
 induction n with
 | zero =>
   intro s h _;have:s = []:=List.length_eq_zero_iff.1 (by omega);subst this;decide
 | succ n ih =>
   intro s h ha
   rcases Nat.eq_zero_or_pos s.length with h0 | h0
   ·have:s = []:=List.length_eq_zero_iff.1 h0;subst this;refine ⟨by decide,?_⟩;have:(0:Int)<10 ^ (n+1):=Int.pow_pos (by decide);exact this
   ·have e:s=s.take (s.length - 1+1):=by rw [List.take_of_length_le (by omega)]
    have h1:(s.take (s.length - 1)).all isDig=true:=by
     rw [List.all_eq_true] at ha ⊢
     exact fun x hx=>ha x (List.mem_of_mem_take hx)
    have h2:=ih _ (by rw [List.length_take];omega) h1;have h3:isDig (s.getD (s.length - 1) 0)=true:=(List.all_eq_true.1 ha) _ (getD_in (by omega));rw [isDig_is] at h3;rw [e,dnum_step (by omega)]
    have h4:(10:Int) ^ (n+1)=10*10 ^ n:=by rw [Int.pow_succ];omega
    rw [h4];omega
theorem dnum_take {s:Str} {i:Nat} (hs:s.length<=10) (h:(s.take i).all isDig=true):0<=dnum (s.take i)/\dnum (s.take i)<10000000000 :=
 dnum_bd 10 _ (by rw [List.length_take];omega) h
theorem number_ct' (s:Str) (hs:s.length<=10):Cr 311 [.str s] (i64 (pnum s)):=by
 refine .det (De Tryz.func311 [] [] ?_)
 repeat' first|refine S0 ?_;conv=>whnf
 refine Lw [] [] (α:=Nat) (fun i=>[(0,.str s),(3,i64 (dnum (s.take i))),(6,i64 s.length),(7,i64 i)]) (fun i=>[]) 0 (fun i=>i<=s.length/\(s.take i).all isDig=true) (fun i=>s.length - i) ?_ ?_
 ·refine Again.by 0 ⟨zle _,rfl⟩ ?_
  repeat' first|refine S0 ?_;conv=>whnf|refine Vo ?_|exact T0|(rfl)|refine Vm ?_ ?_
 ·intro i ⟨hi,hd⟩;have hb:=dnum_take hs hd
  have hno:=fun (h:i<s.length) (hx:¬(48<=(s.getD i 0).toNat/\(s.getD i 0).toNat<=57))=>digs_no h (by rw [<-Bool.not_eq_true,isDig_is];exact hx)
  repeat' first|refine S0 ?_;conv=>whnf|refine Vo ?_|exact T0|refine W6 ?_|refine W8 ?_|(refine Br.d (fun h=>?_) fun h=>?_)|refine Br.swap ?_|refine T2 ?_ ?_
  all_goals try simp only [tnc] at *
  ·rw [pnum,if_neg (hno (by omega) (by omega))]
  ·rw [pnum,if_neg (hno (by omega) (by omega))]
  ·refine Again.by (i+1) ⟨⟨by omega,by rw [digs_step (by omega),hd,Bool.true_and,isDig_is];omega⟩,by omega⟩ ?_
   have hst:=dnum_step (s:=s) (i:=i) (by omega)
   repeat' first|refine S0 ?_;conv=>whnf|refine Vo ?_|exact T0
  ·have e:s.take i=s:=by rw [List.take_of_length_le (by omega)]
   rw [e] at hd ⊢;rw [pnum,if_pos hd]
def leapB (y:Int):Bool:=decide (y.tmod 4=0) && (!decide (y.tmod 100=0) || decide (y.tmod 400=0))
def daysM (y m:Int):Int:=if m=2 then (if leapB y=true then 29 else 28) else if m=4\/m=6\/m=9\/m=11 then 30 else 31
def validD (y m d:Int):Bool:=decide (1800<=y/\y<=2199/\1<=m/\m<=12/\1<=d/\d<=daysM y m)
theorem leap_ct (y:Int):Cr 358 [i64 y] (.bool (leapB y)):=by
 refine .det (De Tryz.func358 [] [] ?_)
 repeat' first|refine S0 ?_;conv=>whnf|refine Vo ?_|exact T0|(refine Br.d (fun h=>?_) fun h=>?_)|refine Br.swap ?_|refine Br.bnot ?_|refine T2 ?_ ?_
 all_goals simp [leapB, *]
theorem days_ct (y m:Int) (h1:1<=m) (h2:m<=12):Cr 345 [i64 y,i64 m] (i64 (daysM y m)):=by
 have hm:m=1\/m=2\/m=3\/m=4\/m=5\/m=6\/m=7\/m=8\/m=9\/m=10\/m=11\/m=12:=by omega
 rcases hm with rfl | rfl | rfl | rfl | rfl | rfl | rfl | rfl | rfl | rfl | rfl | rfl
 all_goals
  refine .det (De Tryz.func345 [] [] ?_)
  repeat' first|refine S0 ?_;conv=>whnf|refine Vo ?_|exact T0|refine W6 ?_|refine B1 ?_|refine B0 ?_|(refine Bm (fun h=>?_) fun h=>?_)|refine T2 ?_ ?_|refine K0 ?_|(refine M0 (g:=358) (leap_ct _) ?_)
 all_goals simp [daysM, *]
def dtD (y m d:Int):D:=.agg [i64 y,i64 m,i64 d]
theorem dvalid_ct (y m d:Int):Cr 309 [dtD y m d] (.bool (validD y m d)):=by
 refine .det (De Tryz.func309 ord309 [] ?_)
 repeat' first|refine S0 ?_;conv=>whnf|exact T0|(refine Br.d (fun h=>?_) fun h=>?_)|refine T2 ?_ ?_|refine K1 ?_|(refine M0 (g:=345) (days_ct _ _ (by omega) (by omega)) ?_)
 all_goals (simp [validD, *];try omega)
theorem dvalid_is (y m d:Int) (v:Bool) (h:validD y m d=v):Cr 309 [dtD y m d] (.bool v):=h ▸ dvalid_ct y m d
def pk (b:Bool) (x:Int):Int:=match b with
 | true=>x| false=>0
def ern (b:Bool) (e:Int):Int:=match b with
 | true=>0| false=>e
theorem made_ct (a b c:Str) (ha:a.length<=10) (hb:b.length<=10) (hc:c.length<=10) (v:Bool) (hv:validD (pnum a) (pnum b) (pnum c)=v):Cr 266 [.str a,.str b,.str c] (.tup [dtD (pk v (pnum a)) (pk v (pnum b)) (pk v (pnum c)),i64 (ern v 4)]):=by
 cases v
 all_goals
  refine .det (De Tryz.func266 [] [] ?_)
  repeat' first|refine S0 ?_;conv=>whnf|exact T0|with_reducible refine Br.tt ?_|with_reducible refine Br.ff ?_|(refine M0 (dvalid_is _ _ _ _ hv) ?_)|refine Br.bnot ?_|refine T2 ?_ ?_|refine K0 ?_|(refine M0 (g:=311) (number_ct' _ (by first | omega | decide | (simp;done) | (simp;omega))) ?_)
 all_goals rfl
def parts3 (s:Str):Option (Str × Str × Str) :=
 if s.length=10 then
  if (s.getD 4 0).toNat=45/\(s.getD 7 0).toNat=45 then some (s.take 4,(s.take 7).drop 5,(s.take s.length).drop 8)
  else if (s.getD 2 0).toNat=46/\(s.getD 5 0).toNat=46 then some ((s.take s.length).drop 6,(s.take 5).drop 3,s.take 2)
  else if (s.getD 2 0).toNat=47/\(s.getD 5 0).toNat=47 then some ((s.take s.length).drop 6,s.take 2,(s.take 5).drop 3)
  else none
 else none
def dateOf (s:Str):Option (Int × Int × Int):=match parts3 s with
 | some (a,b,c)=>if validD (pnum a) (pnum b) (pnum c)=true then some (pnum a,pnum b,pnum c) else none
 | none=>none
def dt0:Option (Int × Int × Int)->Int × Int × Int
 | some x=>x| none=>(0,0,0)
theorem dateOf_fin {s a b c:Str} (h:parts3 s=some (a,b,c)):pk (validD (pnum a) (pnum b) (pnum c)) (pnum a)=(dt0 (dateOf s)).1/\pk (validD (pnum a) (pnum b) (pnum c)) (pnum b)=(dt0 (dateOf s)).2.1/\pk (validD (pnum a) (pnum b) (pnum c)) (pnum c)=(dt0 (dateOf s)).2.2/\ern (validD (pnum a) (pnum b) (pnum c)) 4=ern (dateOf s).isSome 4:=by
 unfold dateOf;rw [h];dsimp only
 cases validD (pnum a) (pnum b) (pnum c)
 ·exact ⟨rfl,rfl,rfl,rfl⟩
 ·exact ⟨rfl,rfl,rfl,rfl⟩
theorem dateOf_no {s:Str} (h:parts3 s=none):0=(dt0 (dateOf s)).1/\0=(dt0 (dateOf s)).2.1/\0=(dt0 (dateOf s)).2.2/\4=ern (dateOf s).isSome 4:=by
 unfold dateOf;rw [h];exact ⟨rfl,rfl,rfl,rfl⟩
theorem p_dash {s:Str} (h:(s.length:Int)=10) (h1:((s.getD 4 0).toNat:Int)=45) (h2:((s.getD 7 0).toNat:Int)=45):parts3 s=some (s.take 4,(s.take 7).drop 5,(s.take s.length).drop 8):=by
 rw [parts3,if_pos (by omega),if_pos (by omega)]
theorem p_dot {s:Str} (h:(s.length:Int)=10) (n:¬(((s.getD 4 0).toNat:Int)=45/\((s.getD 7 0).toNat:Int)=45)) (h1:((s.getD 2 0).toNat:Int)=46) (h2:((s.getD 5 0).toNat:Int)=46):parts3 s=some ((s.take s.length).drop 6,(s.take 5).drop 3,s.take 2):=by
 rw [parts3,if_pos (by omega),if_neg (by omega),if_pos (by omega)]
theorem p_bar {s:Str} (h:(s.length:Int)=10) (n:¬(((s.getD 4 0).toNat:Int)=45/\((s.getD 7 0).toNat:Int)=45)) (h1:((s.getD 2 0).toNat:Int)=47) (h2:((s.getD 5 0).toNat:Int)=47):parts3 s=some ((s.take s.length).drop 6,s.take 2,(s.take 5).drop 3):=by
 rw [parts3,if_pos (by omega),if_neg (by omega),if_neg (by omega),if_pos (by omega)]
theorem p_no {s:Str} (h:¬(s.length:Int)=10\/(¬(((s.getD 4 0).toNat:Int)=45/\((s.getD 7 0).toNat:Int)=45)/\¬(((s.getD 2 0).toNat:Int)=46/\((s.getD 5 0).toNat:Int)=46)/\¬(((s.getD 2 0).toNat:Int)=47/\((s.getD 5 0).toNat:Int)=47))):parts3 s=none:=by
 rw [parts3];by_cases h0:s.length=10
 ·rw [if_pos h0,if_neg (by omega),if_neg (by omega),if_neg (by omega)]
 ·rw [if_neg h0]
theorem parse_cases (s:Str) :
 (parts3 s=none/\¬(s.length:Int)=10) \/
 ((s.length:Int)=10/\((((s.getD (Int.toNat 4) 0).toNat:Int)=45/\((s.getD (Int.toNat 7) 0).toNat:Int)=45)/\parts3 s=some (s.take 4,(s.take 7).drop 5,(s.take s.length).drop 8) \/
   (¬((s.getD (Int.toNat 4) 0).toNat:Int)=45\/¬((s.getD (Int.toNat 7) 0).toNat:Int)=45) /\
    ((((s.getD (Int.toNat 2) 0).toNat:Int)=46/\((s.getD (Int.toNat 5) 0).toNat:Int)=46)/\parts3 s=some ((s.take s.length).drop 6,(s.take 5).drop 3,s.take 2) \/
     (((s.getD (Int.toNat 2) 0).toNat:Int)=47/\((s.getD (Int.toNat 5) 0).toNat:Int)=47)/\parts3 s=some ((s.take s.length).drop 6,s.take 2,(s.take 5).drop 3) \/
     (¬((s.getD (Int.toNat 2) 0).toNat:Int)=46\/¬((s.getD (Int.toNat 5) 0).toNat:Int)=46)/\(¬((s.getD (Int.toNat 2) 0).toNat:Int)=47\/¬((s.getD (Int.toNat 5) 0).toNat:Int)=47)/\parts3 s=none))):=by
 by_cases h:(s.length:Int)=10
 ·refine .inr ⟨h,?_⟩;by_cases h1:((s.getD (Int.toNat 4) 0).toNat:Int)=45/\((s.getD (Int.toNat 7) 0).toNat:Int)=45
  ·exact .inl ⟨h1,p_dash h h1.1 h1.2⟩
  ·refine .inr ⟨by omega,?_⟩;by_cases h2:((s.getD (Int.toNat 2) 0).toNat:Int)=46/\((s.getD (Int.toNat 5) 0).toNat:Int)=46
   ·exact .inl ⟨h2,p_dot h h1 h2.1 h2.2⟩
   ·by_cases h3:((s.getD (Int.toNat 2) 0).toNat:Int)=47/\((s.getD (Int.toNat 5) 0).toNat:Int)=47
    ·exact .inr (.inl ⟨h3,p_bar h h1 h3.1 h3.2⟩)
    ·exact .inr (.inr ⟨by omega,by omega,p_no (.inr ⟨h1,h2,h3⟩)⟩)
 ·exact .inl ⟨p_no (.inl h),h⟩
theorem parse_ct (s:Str):Cr 264 [.str s] (.tup [dtD (dt0 (dateOf s)).1 (dt0 (dateOf s)).2.1 (dt0 (dateOf s)).2.2,i64 (ern (dateOf s).isSome 4)]):=by
 rcases parse_cases s with ⟨hp,h⟩ | ⟨h,⟨⟨h1,h2⟩,hp⟩ | ⟨hn,⟨⟨h1,h2⟩,hp⟩ | ⟨⟨h1,h2⟩,hp⟩ | ⟨h1,h2,hp⟩⟩⟩
 ·have e:=dateOf_no hp;refine .det (De Tryz.func264 ord264 [] ?_)
  repeat' first|refine S0 ?_;conv=>whnf|exact T0|refine B0 ?_|refine Br.bnot ?_|refine T2 ?_ ?_
  all_goals first
   | exact e.1
   | exact e.2.1
   | exact e.2.2.1
   | exact e.2.2.2
 ·have e:=dateOf_fin hp;refine .det (De Tryz.func264 ord264 [] ?_)
  repeat' first|refine S0 ?_;conv=>whnf|refine Vo ?_|exact T0|refine B1 ?_|(refine M0 (made_ct _ _ _ (by simp;omega) (by simp;omega) (by simp;omega) _ rfl) ?_)|refine Br.bnot ?_|refine T2 ?_ ?_|refine K1 ?_
  all_goals first
   | exact e.1
   | exact e.2.1
   | exact e.2.2.1
   | exact e.2.2.2
 ·have e:=dateOf_fin hp;refine .det (De Tryz.func264 ord264 [] ?_)
  repeat' first|refine S0 ?_;conv=>whnf|refine Vo ?_|exact T0|refine B1 ?_|refine B0 ?_|(refine M0 (made_ct _ _ _ (by simp;omega) (by simp;omega) (by simp;omega) _ rfl) ?_)|(refine Br.d (fun h=>?_) fun h=>?_)|refine Br.bnot ?_|refine T2 ?_ ?_|refine K1 ?_
  all_goals first
   | exact e.1
   | exact e.2.1
   | exact e.2.2.1
   | exact e.2.2.2
 ·have e:=dateOf_fin hp;refine .det (De Tryz.func264 ord264 [] ?_)
  repeat' first|refine S0 ?_;conv=>whnf|refine Vo ?_|exact T0|refine B1 ?_|refine B0 ?_|(refine M0 (made_ct _ _ _ (by simp;omega) (by simp;omega) (by simp;omega) _ rfl) ?_)|(refine Br.d (fun h=>?_) fun h=>?_)|refine Br.bnot ?_|refine T2 ?_ ?_|refine K1 ?_
  all_goals first
   | exact e.1
   | exact e.2.1
   | exact e.2.2.1
   | exact e.2.2.2
 ·have e:=dateOf_no hp;refine .det (De Tryz.func264 ord264 [] ?_)
  repeat' first|refine S0 ?_;conv=>whnf|refine Vo ?_|exact T0|refine B1 ?_|refine B0 ?_|(refine Br.d (fun h=>?_) fun h=>?_)|refine Br.bnot ?_|refine T2 ?_ ?_
  all_goals first
   | exact e.1
   | exact e.2.1
   | exact e.2.2.1
   | exact e.2.2.2
end Kx
open Go Sx Go.Proofs
namespace Kx
def sX (a b:Int):Int:=bitI .xor .u64 a b
def sA (a b:Int):Int:=IntKind.u64.wrap (a+b)
def sOr (a b:Int):Int:=bitI .or .u64 a b
def rotN (n:Int):Int:=bitI .and .u64 (IntKind.u64.wrap n) 63
def rotS (x n:Int):Int:=sOr (IntKind.u64.wrap (x*2 ^ (min (rotN n).toNat IntKind.u64.bits))) (x.fdiv (2 ^ (min (IntKind.u64.wrap (64 - rotN n)).toNat IntKind.u64.bits)))
structure S4 where
 a:Int
 b:Int
 c:Int
 d:Int
def S4.ls (s:S4):List D:=[u64 s.a,u64 s.b,u64 s.c,u64 s.d]
def rnd (s:S4):S4 :=
 let a1:=sA s.a s.b
 let b1:=sX (rotS s.b 13) a1
 let a2:=rotS a1 32
 let c1:=sA s.c s.d
 let d1:=sX (rotS s.d 16) c1
 let a3:=sA a2 d1
 let d2:=sX (rotS d1 21) a3
 let c2:=sA c1 b1
 let b2:=sX (rotS b1 17) c2
 ⟨a3,b2,rotS c2 32,d2⟩
def rnds (s:S4):Nat->S4
 | 0=>s| n+1=>rnd (rnds s n)
def wrd (s:S4) (m:Int):S4 :=
 let t:=rnds ⟨s.a,s.b,s.c,sX s.d m⟩ 2
 ⟨sX t.a m,t.b,t.c,t.d⟩
def numS (s:Str):Nat->Int
 | 0=>0| i+1=>sOr (numS s i) (IntKind.u64.wrap (IntKind.u64.wrap ((s.getD i 0).toNat:Int)*2 ^ (min (8*(i:Int)).toNat IntKind.u64.bits)))
def eat (s:Str) (t:S4):Nat->S4
 | 0=>t| j+1=>wrd (eat s t j) (numS (s.drop (8*j)) 8)
def sip0 (k:Int × Int):S4:=⟨sX k.1 8317987319222330741,sX k.2 7237128888997146477,sX k.1 7816392313619706465,sX k.2 8387220255154660723⟩
def sipEnd (t:S4) (m:Int):Int :=
 let u:=wrd t m
 let v:=rnds ⟨u.a,u.b,sX u.c 255,u.d⟩ 4
 sX (sX (sX v.a v.b) v.c) v.d
def sLast (n:Int):Int:=IntKind.u64.wrap (IntKind.u64.wrap n*2 ^ (min (56:Int).toNat IntKind.u64.bits))
def sip (k:Int × Int) (s:Str):Int :=
 sipEnd (eat s (sip0 k) (s.length / 8)) (sOr (numS (s.drop (8*(s.length / 8))) (s.length % 8)) (sLast s.length))
theorem bit_in (op:BinOp) (x y:Int):0<=bitI op .u64 x y/\bitI op .u64 x y<=18446744073709551615:=by
 unfold bitI
 split<;>exact wu_in _
theorem sip_in (k:Int × Int) (s:Str):0<=sip k s/\sip k s<=18446744073709551615:=by
 unfold sip sipEnd sX;exact bit_in _ _ _
theorem rot_ct (x n:Int):Cr 242 [u64 x,i64 n] (u64 (rotS x n)):=by
 refine .det (De Tryz.func242 [] [] ?_)
 repeat' first|refine S0 ?_;conv=>whnf|exact T0|refine Wr.raw ?_|(refine Vc.om (bit_in _ _ _).1 ?_)|(refine Vc.om (wu_in _).1 ?_)|refine T2 ?_ ?_
 all_goals rfl
theorem rounds_ct (s:S4) (n:Nat) (hn:n<=100):Ct Tryz.prog 176 [.fbox s.ls,i64 n] fun r outs=>r = .tup []/\outs = [.fbox (rnds s n).ls]:=by
 refine .det (De Tryz.func176 ord176 [] ?_)
 repeat' first|refine S0 ?_;conv=>whnf
 refine Lw ord176 [] (α:=Nat) (fun i=>[(0,.loc 0 0),(4,i64 n),(5,i64 i)]) (fun i=>[(0,.var (rnds s i).ls)]) 1 (fun i=>i<=n) (fun i=>n - i) ?_ ?_
 ·refine Again.by 0 (zle _) ?_
  repeat' first|refine S0 ?_;conv=>whnf|refine Vo ?_|exact T0|(rfl)|refine Vm ?_ ?_
 ·intro i hi;generalize hx:rnds s i=x
  have hy:rnds s (i+1)=rnd x:=by rw [<-hx];rfl
  repeat' first|refine S0 ?_;conv=>whnf|exact T0|refine W6 ?_|refine Wr.raw ?_|(refine Br.d (fun h=>?_) fun h=>?_)|refine T2 ?_ ?_|refine K0 ?_|refine K1 ?_|(refine M0 (g:=242) (rot_ct _ _) ?_)
  ·refine Again.by (i+1) ⟨by omega,by omega⟩ ?_
   rw [hy]
   repeat' first|refine S0 ?_;conv=>whnf|refine Vo ?_|exact T0|(rfl)|refine Vm ?_ ?_
  all_goals
   obtain rfl:n=i:=by omega
   rw [hx]
theorem rounds_is (s:S4) (n:Nat) (hn:n<=100) (t:S4) (ht:rnds s n=t):Ct Tryz.prog 176 [.fbox s.ls,i64 n] fun r outs=>r = .tup []/\outs = [.fbox t.ls]:=ht ▸ rounds_ct s n hn
theorem wrd_is (s:S4) (m:Int) (t:S4) (ht:rnds ⟨s.a,s.b,s.c,sX s.d m⟩ 2=t):Ct Tryz.prog 174 [.fbox s.ls,u64 m] fun r outs=>r = .tup []/\outs = [.fbox [u64 (sX t.a m),u64 t.b,u64 t.c,u64 t.d]]:=by
 refine .det (De Tryz.func174 [] [] ?_)
 repeat' first|refine S0 ?_;conv=>whnf|exact T0|(refine M0 (rounds_is ⟨s.a,s.b,s.c,sX s.d m⟩ 2 (by decide) t ht) ?_)|refine T2 ?_ ?_|(refine CallOK.io1 (g:=176) (Step.out ?_))
 all_goals rfl
theorem wrd_ct (s:S4) (m:Int) (u:S4) (hu:wrd s m=u):Ct Tryz.prog 174 [.fbox s.ls,u64 m] fun r outs=>r = .tup []/\outs = [.fbox u.ls]:=by
 obtain ⟨t,ht⟩:∃ t,rnds ⟨s.a,s.b,s.c,sX s.d m⟩ 2=t:=⟨_,rfl⟩;have:=wrd_is s m t ht
 have e:u=⟨sX t.a m,t.b,t.c,t.d⟩:=by rw [<-hu,<-ht];rfl
 rw [e];exact this
theorem wrd_at (s:S4) (m:Int) (u:S4) (hu:wrd s m=u):Ct Tryz.prog 174 [.fbox [.int .u64 s.a,.int .u64 s.b,.int .u64 s.c,.int .u64 s.d],.int .u64 m] fun r outs=>r = .tup []/\outs = [.fbox u.ls]:=wrd_ct s m u hu
theorem num_ct (s:Str) (n:Nat) (hn:n<=s.length) (h8:n<=8):Cr 175 [.tab 1 n (bytesF s)] (u64 (numS s n)):=by
 refine .det (De Tryz.func175 [] [] ?_)
 repeat' first|refine S0 ?_;conv=>whnf
 refine Lw [] [] (α:=Nat) (fun i=>[(3,u64 (numS s i)),(6,.tab 1 n (bytesF s)),(7,i64 n),(8,i64 i)]) (fun i=>[]) 0 (fun i=>i<=n) (fun i=>n - i) ?_ ?_
 ·refine Again.by 0 (zle _) ?_
  repeat' first|refine S0 ?_;conv=>whnf|refine Vo ?_|exact T0|(rfl)|refine Vm ?_ ?_
 ·intro i hi
  repeat' first|refine S0 ?_;conv=>whnf|refine Vo ?_|exact T0|refine W6 ?_|refine Wr.raw ?_|(refine Br.d (fun h=>?_) fun h=>?_)|refine T2 ?_ ?_
  ·refine Again.by (i+1) ⟨by omega,by omega⟩ ?_
   repeat' first|refine S0 ?_;conv=>whnf|refine Vo ?_|exact T0|refine Vm ?_ ?_
   simp only [tnc];rfl
  ·rw [show i=n by omega]
theorem num_at {m:Nat} {f:Nat->List D} (w:Str) (n:Nat) (h1:n<=w.length) (h8:n<=8) (hm:m=n) (hf:∀ i,f i=bytesF w i) (x:Int) (hx:numS w n=x):Cr 175 [.tab 1 m f] (u64 x) :=
 hx ▸ (num_ct w n h1 h8).arg ⟨rfl,⟨hm,fun i _=>hf i⟩,trivial⟩
theorem bytes_drop (s:Str) (j:Nat) (i:Nat):bytesF (s.drop (8*j)) (8+i)=bytesF (s.drop (8*(j+1))) i:=by
 unfold bytesF;simp only [gDe,List.getElem?_drop];rw [show 8*j+(8+i)=8*(j+1)+i by omega]
theorem sum_ct (k:Int × Int) (s:Str) (hs:s.length<=1000000):Cr 117 [.agg [u64 k.1,u64 k.2],.tab 1 s.length (bytesF s)] (u64 (sip k s)):=by
 refine .det (De Tryz.func117 [] [] ?_)
 repeat' first|refine S0 ?_;conv=>whnf|refine Vo ?_|refine Wr.raw ?_
 refine Lw [] [] (α:=Nat) (fun j=>[(1,.tab 1 (s.length - 8*j) (bytesF (s.drop (8*j)))),(5,.loc 0 0),(6,u64 (sLast s.length))]) (fun j=>[(0,.var (eat s (sip0 k) j).ls)]) 1 (fun j=>8*j<=s.length) (fun j=>s.length - j) ?_ ?_
 ·refine Again.by 0 (zle _) ?_
  repeat' first|refine S0 ?_;conv=>whnf|exact T0|(exact ⟨rfl,fun _ _=>rfl⟩)|(rfl)|refine Vm ?_ ?_
 ·intro j hj;obtain ⟨x,hx⟩:∃ x,eat s (sip0 k) j=x:=⟨_,rfl⟩;obtain ⟨w,hw⟩:∃ w,s.drop (8*j)=w:=⟨_,rfl⟩;obtain ⟨r,hr⟩:∃ r,s.length - 8*j=r:=⟨_,rfl⟩;obtain ⟨m8,h8⟩:∃ m,numS w 8=m:=⟨_,rfl⟩;obtain ⟨mr,hmr⟩:∃ m,numS w r=m:=⟨_,rfl⟩;obtain ⟨y,hy⟩:∃ y,wrd x m8=y:=⟨_,rfl⟩;obtain ⟨u,hu⟩:∃ u,wrd x (sOr mr (sLast s.length))=u:=⟨_,rfl⟩;obtain ⟨v,hv⟩:∃ v,rnds ⟨u.a,u.b,sX u.c 255,u.d⟩ 4=v:=⟨_,rfl⟩
  have hl:w.length=r:=by rw [<-hw,List.length_drop,hr]
  have hs1:8<=r->eat s (sip0 k) (j+1)=y:=fun _=>by rw [<-hy,<-h8,<-hx,<-hw];rfl
  have hs2:r<8->sX (sX (sX v.a v.b) v.c) v.d=sip k s:=fun h=>by
   have e1:s.length / 8=j:=by omega
   have e2:s.length % 8=r:=by omega
   unfold sip sipEnd;rw [e1,e2,hw,hx,hmr,hu];dsimp only;rw [hv]
  have hb:=bytes_drop s j;rw [hw] at hb;rw [hx,hw,hr]
  repeat' first|refine S0 ?_;conv=>whnf|refine Vo ?_|exact T0|(refine M0 (num_at w 8 (by omega) (by omega) (by decide) (fun i=>congrArg (bytesF w) (Nat.zero_add i)) m8 h8) ?_)|(refine M0 (num_at w r (by omega) (by omega) rfl (fun i=>rfl) mr hmr) ?_)|(with_reducible refine Met.by (wrd_at x m8 y hy) ?_;rintro q outs ⟨rfl,rfl⟩)|(refine M0 (wrd_ct x (sOr mr (sLast s.length)) u hu) ?_)|(refine M0 (rounds_is ⟨u.a,u.b,sX u.c 255,u.d⟩ 4 (by decide) v hv) ?_)|(refine Br.d (fun h=>?_) fun h=>?_)|refine T2 ?_ ?_|(refine CallOK.io1 (g:=174) (Step.out ?_))|(refine CallOK.io1 (g:=176) (Step.out ?_))|refine K0 ?_
  ·refine Again.by (j+1) ⟨by omega,by omega⟩ ?_
   rw [hs1 (by omega)]
   repeat' first|refine S0 ?_;conv=>whnf|refine Vo ?_|exact T0|(exact ⟨by simp;omega,fun i _=>by simpa using hb i⟩)|refine Vm ?_ ?_
  ·exact hs2 (by omega)
def hdS (t:Str):Str:=[UInt8.ofNat (t.length / 256),UInt8.ofNat (t.length % 256)] ++ t
def partsB (l:List Str):Str:=l.flatMap hdS
theorem partsB_step {l:List Str} {i:Nat} (h:i<l.length):partsB (l.take (i+1))=partsB (l.take i) ++ hdS (l.getD i []):=by
 unfold partsB;rw [take_step l [] i h,List.flatMap_append];simp
theorem partsB_len:∀ (l:List Str) (n:Nat),(∀ t ∈ l,t.length<=n)->(partsB l).length<=(n+2)*l.length
 | [],_,_=>by simp [partsB]
 | t :: l,n,h=>by
   have h1:=partsB_len l n fun u hu=>h u (by simp [hu])
   have h2:=h t (by simp);have e:partsB (t :: l)=hdS t ++ partsB l:=rfl;rw [e];simp only [hdS,lap,List.length_cons,List.length_nil,Nat.mul_add,Nat.mul_one];omega
theorem hd_at (x y:Int) (a b:UInt8) (hx:x=(a.toNat:Int)) (hy:y=(b.toNat:Int)) (i:Nat) (hi:i<2):selC [[D.int .u8 x],[D.int .u8 y]] i=bytesF [a,b] i:=by
 subst hx hy
 match i with
 | 0=>rfl| 1=>rfl| n+2=>omega
theorem hd_hi (n:Nat) (h:n<=9000):IntKind.u8.wrap ((n:Int).fdiv (2 ^ min (Int.toNat 8) IntKind.i64.bits))=((UInt8.ofNat (n / 256)).toNat:Int):=by
 have e:(n:Int).fdiv (2 ^ min (Int.toNat 8) IntKind.i64.bits)=((n / 256:Nat):Int):=by
  show (n:Int).fdiv 256=_
  rw [Int.fdiv_eq_ediv_of_nonneg _ (by decide)];omega
 rw [e,w8 _ (by omega)]
 have:(UInt8.ofNat (n / 256)).toNat=n / 256:=by rw [UInt8.toNat_ofNat'];omega
 omega
theorem hd_lo (n:Nat):IntKind.u8.wrap (n:Int)=((UInt8.ofNat (n % 256)).toNat:Int):=by
 have:(UInt8.ofNat (n % 256)).toNat=n % 256:=by rw [UInt8.toNat_ofNat'];omega
 rw [this];simp only [IntKind.wrap,IntKind.signed,IntKind.bits,Bool.false_and];simp
theorem hd_app (o t:Str) (x y:Int) (f:Nat->List D) (hx:x=((UInt8.ofNat (t.length / 256)).toNat:Int)) (hy:y=((UInt8.ofNat (t.length % 256)).toNat:Int)) (u:Str) (hu:u=t) (w:Str) (hw:w=o ++ hdS t) :
 o.length+2+u.length=w.length/\∀ i,i<w.length->iteL (i<o.length+2) (iteL (i<o.length) (bytesF o i) (selC [[D.int .u8 x],[D.int .u8 y]] (i - o.length))) (bytesF u (i - (o.length+2)))=bytesF w i:=by
 subst hu hw;have h2:=bytes_app (o ++ [UInt8.ofNat (u.length / 256),UInt8.ofNat (u.length % 256)]) u;have h1:=bytes_app o [UInt8.ofNat (u.length / 256),UInt8.ofNat (u.length % 256)]
 have e:o ++ hdS u=o ++ [UInt8.ofNat (u.length / 256),UInt8.ofNat (u.length % 256)] ++ u:=by simp [hdS]
 rw [e]
 have el:(o ++ [UInt8.ofNat (u.length / 256),UInt8.ofNat (u.length % 256)]).length=o.length+2:=by simp
 rw [el] at h1 h2;refine ⟨h2.1,fun i hi=>?_⟩;rw [<-h2.2 i hi];by_cases hc:i<o.length+2
 ·have k:=h1.2 i hc
  have e1:iteL (i<o.length) (bytesF o i) (selC [[D.int .u8 x],[D.int .u8 y]] (i - o.length))=bytesF (o ++ [UInt8.ofNat (u.length / 256),UInt8.ofNat (u.length % 256)]) i:=by
   rw [<-k];by_cases hd:i<o.length
   ·rw [iteL_same rfl,iteL_same rfl,if_pos hd,if_pos hd]
   ·rw [hd_at x y _ _ hx hy _ (by omega)]
  rw [e1]
 ·rw [iteL_same rfl,if_neg hc,iteL_same rfl,if_neg hc]
theorem cut_all (t:Str) (h:t.length<=9000):List.drop (Int.toNat 0) (List.take (min (t.length:Int) 65535).toNat t)=t:=by
 rw [show (min (t.length:Int) 65535).toNat=t.length by omega,List.take_length];rfl
theorem parts_ct (k:Int × Int) (l:List Str) (hl:l.length<=100) (ht:∀ t ∈ l,t.length<=9000):Cr 72 [.agg [u64 k.1,u64 k.2],strs l] (u64 (sip k (partsB l))):=by
 have hp:=partsB_len l 9000 ht;refine .det (De Tryz.func72 [] [] ?_)
 repeat' first|refine S0 ?_;conv=>whnf
 refine Lw [] [] (α:=Nat) (fun i=>[(2,.loc 0 0),(5,.own 1),(8,strs l),(9,i64 l.length),(10,i64 i)]) (fun i=>[(0,.var [u64 k.1,u64 k.2]),(1,.arr 5 1 (partsB (l.take i)).length (bytesF (partsB (l.take i))))]) 2 (fun i=>i<=l.length) (fun i=>l.length - i) ?_ ?_
 ·refine Again.by 0 (zle _) ?_
  repeat' first|refine S0 ?_;conv=>whnf|refine Vo ?_|exact T0|(rfl)|refine Vm ?_ ?_
 ·intro i hi
  have hx:=fun h:(i:Int)<l.length=>ht (l.getD (i:Int).toNat []) (getD_in (by omega))
  have hq:=partsB_len (l.take i) 9000 fun t h=>ht t (List.mem_of_mem_take h)
  rw [List.length_take] at hq
  repeat' first|refine S0 ?_;conv=>whnf|refine Vo ?_|refine Vb ?_|exact T0|exact noSh_int _ _|refine W6 ?_|refine Wr.raw ?_|(refine Vc.om ?_ ?_;focus ((rw [cut_all _ (hx (by omega))];have:=hx (by omega);omega);done))|(refine M0 (sum_ct k (partsB (l.take i)) (by omega)) ?_)|(refine Br.d (fun h=>?_) fun h=>?_)|refine T2 ?_ ?_|refine K0 ?_|refine Vm ?_ ?_
  ·refine Again.by (i+1) ⟨by omega,by omega⟩ ?_
   have hy:=hx (by omega);have hst:=partsB_step (l:=l) (i:=i) (by omega)
   repeat' first|refine S0 ?_;conv=>whnf|refine Vo ?_|exact T0|(exact hd_app _ _ _ _ (fun _=>[]) (by rw [cut_all _ hy];exact hd_hi _ hy) (by rw [cut_all _ hy];exact hd_lo _) _ (cut_all _ hy) _ hst)|refine Vm ?_ ?_
  ·rw [List.take_of_length_le (by omega)]
theorem parts2_ct (k:Int × Int) (a b:Str) (ha:a.length<=9000) (hb:b.length<=9000):Cr 72 [.agg [u64 k.1,u64 k.2],.tab 1 2 fun i=>selC [[.str a],[.str b]] i] (u64 (sip k (partsB [a,b]))) :=
 Ct.lit2 [a,b] ⟨rfl,rfl,rfl,trivial⟩ (parts_ct k [a,b] (by simp) (by simp;omega))
def keyD (k:Int × Int) (t:Str):Int × Int:=(sip k (partsB [t,[97]]),sip k (partsB [t,[98]]))
theorem derive_ct (k:Int × Int) (t:Str) (ht:t.length<=9000):Cr 36 [.agg [u64 k.1,u64 k.2],.str t] (.agg [u64 (keyD k t).1,u64 (keyD k t).2]):=by
 refine .det (De Tryz.func36 ord36 [] ?_)
 repeat' first|refine S0 ?_;conv=>whnf|exact T0|exact noSh_int _ _|(refine M0 (parts2_ct k t [97] ht (by decide)) ?_)|(refine M0 (parts2_ct k t [98] ht (by decide)) ?_)|refine T2 ?_ ?_|refine K1 ?_|refine Vm ?_ ?_
 all_goals rfl
end Kx
