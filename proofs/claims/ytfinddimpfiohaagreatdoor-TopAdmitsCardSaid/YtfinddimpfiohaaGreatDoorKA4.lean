/-
  The deck: raw texts, and folded texts dressed.
  No condition beyond those written in each theorem.
-/
import Derived.Test.YtfinddimpfiohaaGreatDoorKA3
import Derived.Test.YtfinddimpfiohaaGreatDoorFD
set_option linter.unusedSimpArgs false
set_option linter.unusedVariables false
set_option maxRecDepth 4000
open Go Sx Go.Proofs
namespace Kx
def DC (s:Str) (i:Nat) (y:Dk × Nat × Str):Prop:=(y.2.1<=s.length/\y.2.2.length<=2*y.2.1+1/\(foldedC s->DrI (s.take y.2.1) y.2.2))/\s.length - y.2.1<s.length - i
theorem dr_take {s:Str} {i:Nat} (hi:(i:Int)<s.length):s.take (i+1)=s.take i ++ [s.getD (i:Int).toNat 0]:=by
 rw [tnc];exact take_step s 0 i (by omega)
theorem dr_sep {s o a:Str} {i:Nat} {d:Dk} (hi:(i:Int)<s.length) (hb:((s.getD (i:Int).toNat 0).toNat:Int)=32) (h2:o.length<=2*i+1) (h3:foldedC s->DrI (s.take i) o) (ha1:a.length<=2) (ha2:sepB a=true):DC s i (d,i+1,o ++ a):=by
 have e:s.getD (i:Int).toNat 0=32:=UInt8.toNat_inj.1 (by show _=32;omega);refine ⟨⟨by dsimp only;omega,by simp only [lap];omega,fun hc=>?_⟩,by dsimp only;omega⟩;dsimp only;rw [dr_take hi,e];exact (h3 hc).sep ha2
theorem dr_ch {s o:Str} {i:Nat} {d:Dk} (c:UInt8) (hi:(i:Int)<s.length) (hc:isAn (s.getD (i:Int).toNat 0)=true\/s.getD (i:Int).toNat 0=32->plainS c = [s.getD (i:Int).toNat 0]/\isPrn c=true) (h2:o.length<=2*i+1) (h3:foldedC s->DrI (s.take i) o):DC s i (d,i+1,o ++ [c])/\DC s i (d,i+1,o ++ [c] ++ [39]):=by
 have key:foldedC s->DrI (s.take (i+1)) (o ++ [c]):=fun hf=>by
  obtain ⟨e1,e2⟩:=hc (hf _ (by rw [tnc];exact getD_in (by omega)));rw [dr_take hi];exact (h3 hf).same (by simpa using e2) (by simpa using e1)
 refine ⟨⟨⟨by dsimp only;omega,by simp only [lap,List.length_cons,List.length_nil];omega,key⟩,by dsimp only;omega⟩,⟨by dsimp only;omega,by simp only [lap,List.length_cons,List.length_nil];omega,fun hf=>?_⟩,by dsimp only;omega⟩;have:=(key hf).same (a:=[39]) (b:=[]) (by decide +kernel) (by decide +kernel);simpa using this
theorem low_up:∀ x:UInt8,97<=x.toNat->x.toNat<=122->plainS (x - 32) = [x]/\isPrn (x - 32)=true/\(x - 32).toNat+32=x.toNat:=u8_dec (by decide +kernel)
theorem one_dn {x:UInt8} (h1:97<=(x.toNat:Int)) (h2:(x.toNat:Int)<=122) (i:Nat) (hi:i < [x - 32].length):selC [[D.int .u8 ((x.toNat:Int) - 32)]] i=bytesF [x - 32] i:=by
 have:i=0:=by simpa using hi
 subst this
 have:((x - 32).toNat:Int)=x.toNat - 32:=by have:=(low_up x (by omega) (by omega)).2.2;omega
 simp only [selC,bytesF,List.getD_cons_zero,this]
end Kx
open Go Sx Go.Proofs
namespace Kx
def prs (l:List Pr):D:=.tab 2 l.length fun i=>[.str (pGet l i).1,.str (pGet l i).2]
def pr (p:Pr):D:=.agg [.str p.1,.str p.2]
theorem token_eq (s:Str):letters s=lettersS s:=rfl
theorem nm_token_ct (s:Str):Cr 144 [.str s] (.bool (tkn s)):=by
 refine .det (De Tryz.func144 [] [] ?_)
 repeat' first|refine S0 ?_;conv=>whnf|exact T0|(refine Br.d (fun h=>?_) fun h=>?_)|refine Br.bnot ?_|refine T2 ?_ ?_|refine K0 ?_|(refine M0 (g:=89) (letters_ct _ (by first | omega | decide | (simp;done) | (simp;omega))) ?_)
 ·rw [tkn,decide_eq_true (show s = [] from h)];rfl
 ·rw [tkn,decide_eq_false (show ¬s = [] from ‹_›),decide_eq_true (show s.length<=64 by omega),token_eq];rfl
 ·rw [tkn,decide_eq_false (show ¬s.length<=64 by omega),Bool.and_false];rfl
theorem rtoken_ct (s:Str):Cr 315 [.str s] (.bool (tkn s)):=by
 refine .det (De Tryz.func315 [] [] ?_)
 repeat' first|refine S0 ?_;conv=>whnf|exact T0|(refine Br.d (fun h=>?_) fun h=>?_)|refine Br.bnot ?_|refine T2 ?_ ?_|refine K0 ?_|(refine M0 (g:=314) (rletters_ct _ (by first | omega | decide | (simp;done) | (simp;omega))) ?_)
 ·rw [tkn,decide_eq_true (show s = [] from h)];rfl
 ·rw [tkn,decide_eq_false (show ¬s = [] from ‹_›),decide_eq_true (show s.length<=64 by omega),token_eq];rfl
 ·rw [tkn,decide_eq_false (show ¬s.length<=64 by omega),Bool.and_false];rfl
theorem rhas_ct (l:List Str) (s:Str) (hl:l.length<=1000000000):Cr 318 [strs l,.str s] (.bool (hasS l s)):=by
 refine .det (De Tryz.func318 [] [] ?_)
 repeat' first|refine S0 ?_;conv=>whnf
 refine Lw [] [] (α:=Nat) (fun i=>[(0,strs l),(1,.str s),(5,i64 i)]) (fun i=>[]) 0 (fun i=>i<=l.length/\hasS l s=hasS (l.drop i) s) (fun i=>l.length - i) ?_ ?_
 ·refine Again.by 0 ⟨zle _,rfl⟩ ?_
  repeat' first|refine S0 ?_;conv=>whnf|refine Vo ?_|exact T0
 ·intro i ⟨hi,hv⟩
  repeat' first|refine S0 ?_;conv=>whnf|refine Vo ?_|exact T0|refine W6 ?_|(refine Br.d (fun h=>?_) fun h=>?_)|refine T2 ?_ ?_
  all_goals try simp only [tnc] at *
  ·rw [hv,hasS_step (by omega),decide_eq_true h];rfl
  ·refine Again.by (i+1) ⟨⟨by omega,by rw [hv,hasS_step (by omega),decide_eq_false h];rfl⟩,by omega⟩ ?_
   repeat' first|refine S0 ?_;conv=>whnf|refine Vo ?_|exact T0
  ·rw [hv,ddl (by omega)];rfl
theorem index_ct (l:List Str) (s:Str) (hl:l.length<=1000000000):Cr 212 [strs l,.str s] (i64 (idxF (fun x=>decide (x=s)) l)):=by
 refine .det (De Tryz.func212 [] [] ?_)
 repeat' first|refine S0 ?_;conv=>whnf
 refine Lw [] [] (α:=Nat) (fun i=>[(0,strs l),(1,.str s),(7,i64 l.length),(8,i64 i)]) (fun i=>[]) 0 (fun i=>i<=l.length/\(l.take i).any (fun x=>decide (x=s))=false) (fun i=>l.length - i) ?_ ?_
 ·refine Again.by 0 ⟨zle _,rfl⟩ ?_
  repeat' first|refine S0 ?_;conv=>whnf|refine Vo ?_|exact T0
 ·intro i ⟨hi,hv⟩
  repeat' first|refine S0 ?_;conv=>whnf|refine Vo ?_|exact T0|refine W6 ?_|(refine Br.d (fun h=>?_) fun h=>?_)|refine T2 ?_ ?_
  all_goals try simp only [tnc] at *
  ·rw [idxF_at (fun x=>decide (x=s)) [] l i (by omega) hv (decide_eq_true h.symm)]
  ·refine Again.by (i+1) ⟨⟨by omega,by rw [any_take _ l [] i (by omega),hv,decide_eq_false (fun e=>h e.symm)];rfl⟩,by omega⟩ ?_
   repeat' first|refine S0 ?_;conv=>whnf|refine Vo ?_|exact T0
  ·rw [idxF_no];rw [show i=l.length by omega,List.take_length] at hv;exact hv
theorem contains_ct (l:List Str) (s:Str) (hl:l.length<=1000000000):Cr 147 [strs l,.str s] (.bool (hasS l s)):=by
 refine .det (De Tryz.func147 [] [] ?_)
 repeat' first|refine S0 ?_;conv=>whnf|exact T0|refine T2 ?_ ?_|refine K0 ?_|(refine M0 (g:=212) (index_ct _ _ (by first | omega | decide | (simp;done) | (simp;omega))) ?_)
 rw [hasS_idx]
theorem from_ct (p:Pr) (s:Str):Cr 211 [pr p,.ref [.str s]] (.bool (decide (p.1=s))):=by
 refine .det (De Tryz.func211 [] [] ?_)
 repeat' first|refine S0 ?_;conv=>whnf|exact T0|refine T2 ?_ ?_
theorem indexf_ct (l:List Pr) (s:Str) (hl:l.length<=1000000000):Cr 146 [prs l,.fn 211 [.ref [.str s]]] (i64 (idxF (fun p:Pr=>decide (p.1=s)) l)):=by
 refine .det (De Tryz.func146 [] [] ?_)
 repeat' first|refine S0 ?_;conv=>whnf
 refine Lw [] [] (α:=Nat) (fun i=>[(0,prs l),(1,.fn 211 [.ref [.str s]]),(7,i64 l.length),(8,i64 i)]) (fun i=>[]) 0 (fun i=>i<=l.length/\(l.take i).any (fun p:Pr=>decide (p.1=s))=false) (fun i=>l.length - i) ?_ ?_
 ·refine Again.by 0 ⟨zle _,rfl⟩ ?_
  repeat' first|refine S0 ?_;conv=>whnf|refine Vo ?_|exact T0|refine Cho.r ?_
 ·intro i ⟨hi,hv⟩
  repeat' first|refine S0 ?_;conv=>whnf|refine Vo ?_|exact T0|refine W6 ?_|(refine M0 (from_ct _ _) ?_)|(refine Br.d (fun h=>?_) fun h=>?_)|refine T2 ?_ ?_|refine K0 ?_
  all_goals try simp only [tnc] at *
  ·rw [idxF_at (fun p:Pr=>decide (p.1=s)) ([],[]) l i (by omega) hv (decide_eq_true h)]
  ·refine Again.by (i+1) ⟨⟨by omega,by rw [any_take _ l ([],[]) i (by omega),hv,show decide ((l.getD i ([],[])).1=s)=false from decide_eq_false h];rfl⟩,by omega⟩ ?_
   repeat' first|refine S0 ?_;conv=>whnf|refine Vo ?_|exact T0|refine Cho.r ?_
  ·rw [idxF_no];rw [show i=l.length by omega,List.take_length] at hv;exact hv
theorem find_ct (l:List Pr) (s:Str) (hl:l.length<=1000000000):Cr 145 [prs l,.str s] (i64 (idxF (fun p:Pr=>decide (p.1=s)) l)):=by
 refine .det (De Tryz.func145 [] [] ?_)
 repeat' first|refine S0 ?_;conv=>whnf|exact T0|exact noSh_int _ _|(refine M0 (indexf_ct l s hl) ?_)|refine T2 ?_ ?_|refine K0 ?_|refine Vm ?_ ?_
theorem rreplace_ct (l:List Pr) (s:Str) (hl:l.length<=1000000000):Cr 327 [prs l,.str s] (.str (replS l s)):=by
 refine .det (De Tryz.func327 [] [] ?_)
 repeat' first|refine S0 ?_;conv=>whnf
 refine Lw [] [] (α:=Nat) (fun i=>[(0,prs l),(1,.str s),(5,i64 i)]) (fun i=>[]) 0 (fun i=>i<=l.length/\replS l s=replS (l.drop i) s) (fun i=>l.length - i) ?_ ?_
 ·refine Again.by 0 ⟨zle _,rfl⟩ ?_
  repeat' first|refine S0 ?_;conv=>whnf|refine Vo ?_|exact T0
 ·intro i ⟨hi,hv⟩
  repeat' first|refine S0 ?_;conv=>whnf|refine Vo ?_|exact T0|refine W6 ?_|(refine Br.d (fun h=>?_) fun h=>?_)|refine T2 ?_ ?_
  all_goals try simp only [tnc] at *
  ·rw [hv,replS_step (by omega),if_pos h]
  ·refine Again.by (i+1) ⟨⟨by omega,by rw [hv,replS_step (by omega),if_neg h]⟩,by omega⟩ ?_
   repeat' first|refine S0 ?_;conv=>whnf|refine Vo ?_|exact T0
  ·rw [hv,ddl (by omega)];rfl
end Kx
open Go Sx Go.Proofs
namespace Kx
theorem titles_ct (l:List Str) (hl:l.length<=1000000000):Cr 90 [strs l] (.bool (titlesB l)):=by
 refine .det (De Tryz.func90 [] [] ?_)
 repeat' first|refine S0 ?_;conv=>whnf
 refine Lw [] [] (α:=Nat) (fun i=>[(0,strs l),(5,strs l),(6,i64 l.length),(7,i64 i)]) (fun i=>[]) 0 (fun i=>i<=l.length/\titlesB l=((List.range l.length).drop i).all (tAt l)) (fun i=>l.length - i) ?_ ?_
 ·refine Again.by 0 ⟨zle _,rfl⟩ ?_
  repeat' first|refine S0 ?_;conv=>whnf|refine Vo ?_|exact T0
 ·intro i ⟨hi,hv⟩
  have hst:=fun h:i<l.length=>range_step (tAt l) h
  have e:((i:Int) - 1).toNat=i - 1:=by omega
  repeat' first|refine S0 ?_;conv=>whnf|refine Vo ?_|exact T0|refine W6 ?_|(refine Br.d (fun h=>?_) fun h=>?_)|refine Br.swap ?_|refine Br.bnot ?_|(refine Bm (fun h=>?_) fun h=>?_)|refine T2 ?_ ?_|refine K0 ?_|(refine M0 (g:=144) (nm_token_ct _) ?_)
  all_goals try simp only [tnc,e] at *
  ·refine Again.by (i+1) ⟨⟨by omega,by rw [hv,hst (by omega),show tAt l i=true by simp [-List.getD_eq_getElem?_getD,tAt,less, *],Bool.true_and]⟩,by omega⟩ ?_
   repeat' first|refine S0 ?_;conv=>whnf|refine Vo ?_|exact T0
  ·rw [hv,hst (by omega),show tAt l i=false by simp [-List.getD_eq_getElem?_getD,tAt,less, *];omega];rfl
  ·have h0:i=0:=by omega
   refine Again.by (i+1) ⟨⟨by omega,by rw [hv,hst (by omega),show tAt l i=true by subst h0;simp [-List.getD_eq_getElem?_getD,tAt,less, *],Bool.true_and]⟩,by omega⟩ ?_
   repeat' first|refine S0 ?_;conv=>whnf|refine Vo ?_|exact T0
  ·rw [hv,hst (by omega),show tAt l i=false by simp [-List.getD_eq_getElem?_getD,tAt,less, *]];rfl
  ·rw [hv,show i=l.length by omega,range_end]
theorem npairs_ct (l:List Pr) (hl:l.length<=1000000000):Cr 91 [prs l] (.bool (pairsB l)):=by
 refine .det (De Tryz.func91 ord91 [] ?_)
 repeat' first|refine S0 ?_;conv=>whnf
 refine Lw ord91 [] (α:=Nat) (fun i=>[(0,prs l),(5,prs l),(6,i64 l.length),(7,i64 i)]) (fun i=>[]) 0 (fun i=>i<=l.length/\pairsB l=((List.range l.length).drop i).all (pAt l)) (fun i=>l.length - i) ?_ ?_
 ·refine Again.by 0 ⟨zle _,rfl⟩ ?_
  repeat' first|refine S0 ?_;conv=>whnf|refine Vo ?_|exact T0
 ·intro i ⟨hi,hv⟩
  have hst:=fun h:i<l.length=>range_step (pAt l) h
  have e:((i:Int) - 1).toNat=i - 1:=by omega
  have hf:=find_idx l (pGet l i).2
  repeat' first|refine S0 ?_;conv=>whnf|refine Vo ?_|exact T0|refine W6 ?_|(refine Br.d (fun h=>?_) fun h=>?_)|refine Br.swap ?_|refine Br.bnot ?_|(refine Bm (fun h=>?_) fun h=>?_)|refine T2 ?_ ?_|refine K1 ?_|(refine M0 (g:=144) (nm_token_ct _) ?_)|(refine M0 (g:=145) (find_ct _ _ (by first | omega | decide | (simp;done) | (simp;omega))) ?_)
  all_goals try simp only [tnc,e] at *
  ·rw [hv,hst (by omega),show pAt l i=false by rw [pAt,<-hf,decide_eq_true ‹0<=idxF _ l›];simp];rfl
  ·refine Again.by (i+1) ⟨⟨by omega,by rw [hv,hst (by omega),show pAt l i=true by rw [pAt,<-hf,decide_eq_false ‹¬0<=idxF _ l›];simp [-List.getD_eq_getElem?_getD,less, *],Bool.true_and]⟩,by omega⟩ ?_
   repeat' first|refine S0 ?_;conv=>whnf|refine Vo ?_|exact T0
  ·rw [hv,hst (by omega),show pAt l i=false by (have h0:¬i=0:=by omega);simp [-List.getD_eq_getElem?_getD,pAt,less, *]];rfl
  ·rw [hv,hst (by omega),show pAt l i=false by rw [pAt,<-hf,decide_eq_true ‹0<=idxF _ l›];simp];rfl
  ·have h0:i=0:=by omega
   refine Again.by (i+1) ⟨⟨by omega,by rw [hv,hst (by omega),show pAt l i=true by subst h0;rw [pAt,<-hf,decide_eq_false ‹¬0<=idxF _ l›];simp [-List.getD_eq_getElem?_getD,less, *],Bool.true_and]⟩,by omega⟩ ?_
   repeat' first|refine S0 ?_;conv=>whnf|refine Vo ?_|exact T0
  ·rw [hv,hst (by omega),show pAt l i=false by rw [pAt,h];simp];rfl
  ·rw [hv,hst (by omega),show pAt l i=false by rw [pAt,h];simp];rfl
  ·rw [hv,show i=l.length by omega,range_end]
theorem rasc_ct (l:List Str) (hl:l.length<=1000000000):Cr 316 [strs l] (.bool (ascB l)):=by
 refine .det (De Tryz.func316 ord316 [] ?_)
 repeat' first|refine S0 ?_;conv=>whnf
 refine Lw ord316 [] (α:=Nat) (fun i=>[(0,strs l),(3,i64 i)]) (fun i=>[]) 0 (fun i=>1<=i/\ascB l=((List.range l.length).drop i).all (aAt l)) (fun i=>l.length - i) ?_ ?_
 ·refine Again.by 1 ⟨Nat.le_refl _,rfl⟩ ?_
  repeat' first|refine S0 ?_;conv=>whnf|refine Vo ?_|exact T0
 ·intro i ⟨hi,hv⟩
  have hst:=fun h:i<l.length=>range_step (aAt l) h
  have e:((i:Int) - 1).toNat=i - 1:=by omega
  have ht:=less_tot (l.getD i []) (l.getD (i - 1) [])
  repeat' first|refine S0 ?_;conv=>whnf|refine Vo ?_|exact T0|refine W6 ?_|(refine Br.d (fun h=>?_) fun h=>?_)|(refine Bm (fun h=>?_) fun h=>?_)|refine T2 ?_ ?_
  all_goals try simp only [tnc,e] at *
  ·rw [hv,hst (by omega),show aAt l i=false by rw [h] at ht;unfold aAt;simpa using ht.symm];rfl
  ·refine Again.by (i+1) ⟨⟨by omega,by rw [hv,hst (by omega),show aAt l i=true by rw [h] at ht;unfold aAt;simpa using ht.symm,Bool.true_and]⟩,by omega⟩ ?_
   repeat' first|refine S0 ?_;conv=>whnf|refine Vo ?_|exact T0
  ·rw [hv,ddl (by simp;omega)];rfl
theorem froms_app (l:List Pr) (i:Nat) (h:i<l.length):froms (l.take (i+1))=froms (l.take i) ++ [(pGet l i).1]:=by
 rw [take_step l ([],[]) i h];simp [froms,pGet]
theorem rpairs_ct (l:List Pr) (hl:l.length<=1000000000):Cr 317 [prs l] (.bool (pairsB l)):=by
 rw [pairs_eq];refine .det (De Tryz.func317 [] [] ?_)
 repeat' first|refine S0 ?_;conv=>whnf
 refine Lw [] [] (α:=Nat) (fun i=>[(0,prs l),(3,.own 0),(4,i64 i)]) (fun i=>[(0,.arr 9 1 (froms (l.take i)).length fun j=>[.str ((froms (l.take i)).getD j [])])]) 1 (fun i=>i<=l.length/\(l.all fun p=>tkn p.1 && tkn p.2)=((l.drop i).all fun p=>tkn p.1 && tkn p.2)) (fun i=>l.length - i) ?_ ?_
 ·refine Again.by 0 ⟨zle _,rfl⟩ ?_
  repeat' first|refine S0 ?_;conv=>whnf|refine Vo ?_|exact T0|(rfl)|refine Vm ?_ ?_
 ·intro i ⟨hi,hv⟩
  have hst:=fun h:i<l.length=>all_step (fun p:Pr=>tkn p.1 && tkn p.2) l ([],[]) i h
  have hfl:(froms (l.take i)).length<=1000000000:=by rw [froms_len,List.length_take];omega
  repeat' first|refine S0 ?_;conv=>whnf|refine Vo ?_|refine Vb ?_|exact T0|refine W6 ?_|(refine Br.d (fun h=>?_) fun h=>?_)|refine Br.swap ?_|refine Br.bnot ?_|(refine Bm (fun h=>?_) fun h=>?_)|refine T2 ?_ ?_|refine K0 ?_|(refine M0 (g:=315) (rtoken_ct _) ?_)
  all_goals try simp only [tnc] at *
  ·refine Again.by (i+1) ⟨⟨by omega,by rw [hv,hst (by omega)];show ((tkn (pGet l i).1 && tkn (pGet l i).2) && _)=_;rw [‹tkn (pGet l i).1=true›,‹tkn (pGet l i).2=true›];rfl⟩,by omega⟩ ?_
   rw [froms_app l i (by omega)]
   repeat' first|refine S0 ?_;conv=>whnf|refine Vo ?_|exact T0|(exact str_app _ _ rfl)|refine Vm ?_ ?_
  ·rw [hv,hst (by omega),show tkn (l.getD i ([],[])).2=false from ‹tkn (pGet l i).2=false›,Bool.and_false,Bool.false_and,Bool.false_and]
  ·rw [hv,hst (by omega),show tkn (l.getD i ([],[])).1=false from ‹tkn (pGet l i).1=false›,Bool.false_and,Bool.false_and,Bool.false_and]
  ·have hT:(l.all fun p=>tkn p.1 && tkn p.2)=true:=by rw [hv,ddl (by omega)];rfl
   rw [hT,show l.take i=l from List.take_of_length_le (by omega)]
   have hfl:(froms l).length<=1000000000:=by rw [froms_len];omega
   refine Lw [] [] (α:=Nat) (fun j=>[(0,prs l),(3,.own 0),(5,i64 j)]) (fun j=>[(0,.arr 9 1 (froms l).length fun j=>[.str ((froms l).getD j [])])]) 1 (fun j=>j<=l.length/\(l.all fun p=>!hasS (froms l) p.2)=((l.drop j).all fun p=>!hasS (froms l) p.2)) (fun j=>l.length - j) ?_ ?_
   ·refine Again.by 0 ⟨zle _,rfl⟩ ?_
    repeat' first|refine S0 ?_;conv=>whnf|refine Vo ?_|exact T0
   ·intro j ⟨hj,hv⟩
    have hst:=fun h:j<l.length=>all_step (fun p:Pr=>!hasS (froms l) p.2) l ([],[]) j h
    repeat' first|refine S0 ?_;conv=>whnf|refine Vo ?_|exact T0|exact noSh_bool _|refine W6 ?_|(refine Br.d (fun h=>?_) fun h=>?_)|(refine Bm (fun h=>?_) fun h=>?_)|refine T2 ?_ ?_|refine K0 ?_|(refine M0 (g:=316) (rasc_ct _ (by first | omega | decide | (simp;done) | (simp;omega))) ?_)|(refine M0 (g:=318) (rhas_ct _ _ (by first | omega | decide | (simp;done) | (simp;omega))) ?_)|refine Vm ?_ ?_
    all_goals try simp only [tnc] at *
    ·rw [hv,hst (by omega),show hasS (froms l) (l.getD j ([],[])).2=true from h,Bool.true_and];rfl
    ·refine Again.by (j+1) ⟨⟨by omega,by rw [hv,hst (by omega),show hasS (froms l) (l.getD j ([],[])).2=false from h];rfl⟩,by omega⟩ ?_
     repeat' first|refine S0 ?_;conv=>whnf|refine Vo ?_|exact T0
    ·rw [hv,ddl (by omega),Bool.true_and];rfl
end Kx
open Go Sx Go.Proofs
namespace Kx
def ruD (r:Ru):D:=.agg [strs r.t,prs r.n,prs r.s]
structure Ru.ok (r:Ru):Prop where
 t:r.t.length<=1000
 n:r.n.length<=1000
 s:r.s.length<=1000
theorem any_idx {α:Type} (p:α->Bool) (l:List α):decide (0<=idxF p l)=l.any p:=by
 have:=idxF_neg p l
 cases h:l.any p with
 | true =>
   refine decide_eq_true (Int.not_lt.1 fun h2=>?_);rw [this.1 h2] at h;cases h
 | false=>have:=this.2 h;exact decide_eq_false (by omega)
theorem dropped_ct (r:Ru) (s:Str) (hr:Ru.ok r):Cr 94 [ruD r,.str s] (.bool (hasS r.t s)):=by
 have h1:=hr.t;refine .det (De Tryz.func94 [] [] ?_)
 repeat' first|refine S0 ?_;conv=>whnf|exact T0|(refine M0 (contains_ct r.t s (by omega)) ?_)|refine T2 ?_ ?_|refine K0 ?_
theorem rdropped_ct (r:Ru) (s:Str) (hr:Ru.ok r):Cr 323 [ruD r,.str s] (.bool (hasS r.t s)):=by
 have h1:=hr.t;refine .det (De Tryz.func323 [] [] ?_)
 repeat' first|refine S0 ?_;conv=>whnf|exact T0|(refine M0 (rhas_ct r.t s (by omega)) ?_)|refine T2 ?_ ?_|refine K0 ?_
theorem canon_ct (r:Ru) (s:Str) (hr:Ru.ok r):Cr 261 [ruD r,.str s] (.str (replS r.n s)):=by
 have h1:=hr.n;refine .det (De Tryz.func261 [] [] ?_)
 repeat' first|refine S0 ?_;conv=>whnf|exact T0|(refine M0 (find_ct r.n s (by omega)) ?_)|(refine Br.d (fun h=>?_) fun h=>?_)|refine T2 ?_ ?_|refine K0 ?_|refine Vm ?_ ?_
 ·have:=idxF_find (fun p:Pr=>decide (p.1=s)) ([],[]) r.n ‹_›;omega
 ·rw [replS_at ‹_›]
 ·rw [replS_no (by omega)]
theorem rcanon_ct (r:Ru) (s:Str) (hr:Ru.ok r):Cr 324 [ruD r,.str s] (.str (replS r.n s)):=by
 have h1:=hr.n;refine .det (De Tryz.func324 [] [] ?_)
 repeat' first|refine S0 ?_;conv=>whnf|exact T0|(refine M0 (rreplace_ct r.n s (by omega)) ?_)|refine T2 ?_ ?_|refine K0 ?_
theorem ctitle_ct (p:Pr) (r:Ru) (hr:Ru.ok r):Cr 93 [pr p,.ref [strs r.t,prs r.n,prs r.s]] (.bool (hasS r.t p.2)):=by
 refine .det (De Tryz.func93 [] [] ?_)
 repeat' first|refine S0 ?_;conv=>whnf|exact T0|(refine M0 (dropped_ct r p.2 hr) ?_)|refine T2 ?_ ?_|refine K0 ?_
theorem indexg_ct (l:List Pr) (q:Ru) (hq:Ru.ok q) (hl:l.length<=1000000000):Cr 146 [prs l,.fn 93 [.ref [strs q.t,prs q.n,prs q.s]]] (i64 (idxF (fun p:Pr=>hasS q.t p.2) l)):=by
 refine .det (De Tryz.func146 [] [] ?_)
 repeat' first|refine S0 ?_;conv=>whnf
 refine Lw [] [] (α:=Nat) (fun i=>[(0,prs l),(1,.fn 93 [.ref [strs q.t,prs q.n,prs q.s]]),(7,i64 l.length),(8,i64 i)]) (fun i=>[]) 0 (fun i=>i<=l.length/\(l.take i).any (fun p:Pr=>hasS q.t p.2)=false) (fun i=>l.length - i) ?_ ?_
 ·refine Again.by 0 ⟨zle _,rfl⟩ ?_
  repeat' first|refine S0 ?_;conv=>whnf|refine Vo ?_|exact T0|refine Cho.r ?_
 ·intro i ⟨hi,hv⟩
  repeat' first|refine S0 ?_;conv=>whnf|refine Vo ?_|exact T0|refine W6 ?_|(refine M0 (ctitle_ct _ q hq) ?_)|(refine Br.d (fun h=>?_) fun h=>?_)|(refine Bm (fun h=>?_) fun h=>?_)|refine T2 ?_ ?_|refine K0 ?_
  all_goals try simp only [tnc] at *
  ·rw [idxF_at (fun p:Pr=>hasS q.t p.2) ([],[]) l i (by omega) hv h]
  ·refine Again.by (i+1) ⟨⟨by omega,by rw [any_take _ l ([],[]) i (by omega),hv,show hasS q.t (l.getD i ([],[])).2=false from h];rfl⟩,by omega⟩ ?_
   repeat' first|refine S0 ?_;conv=>whnf|refine Vo ?_|exact T0|refine Cho.r ?_
  ·rw [idxF_no];rw [show i=l.length by omega,List.take_length] at hv;exact hv
theorem containsf_ct (q:Ru) (hq:Ru.ok q):Cr 92 [prs q.n,.fn 93 [.ref [strs q.t,prs q.n,prs q.s]]] (.bool (q.n.any fun p=>hasS q.t p.2)):=by
 have h1:=hq.n;refine .det (De Tryz.func92 [] [] ?_)
 repeat' first|refine S0 ?_;conv=>whnf|exact T0|(refine M0 (indexg_ct q.n q hq (by omega)) ?_)|refine T2 ?_ ?_|refine K0 ?_
 exact any_idx _ _
theorem checkE_big {r:Ru} (h:(32:Int)<r.t.length\/(32:Int)<r.n.length\/(32:Int)<r.s.length):1=checkE r:=by
 rw [checkE,if_neg (by omega)]
theorem checkE_in {r:Ru} (h1:¬(32:Int)<r.t.length) (h2:¬(32:Int)<r.n.length) (h3:¬(32:Int)<r.s.length):checkE r=if (titlesB r.t && pairsB r.n && pairsB r.s && !(r.n.any fun p=>hasS r.t p.2))=true then 0 else 5:=by
 rw [checkE,if_pos (by omega)]
theorem check_ct (r:Ru) (hr:Ru.ok r):Cr 54 [ruD r] (i64 (checkE r)):=by
 have h1:=hr.t;have h2:=hr.n;have h3:=hr.s;refine .det (De Tryz.func54 [] [] ?_)
 repeat' first|refine S0 ?_;conv=>whnf|exact T0|exact noSh_bool _|(refine M0 (containsf_ct r hr) ?_)|(refine M0 (titles_ct r.t (by omega)) ?_)|(refine M0 (npairs_ct r.n (by omega)) ?_)|(refine M0 (npairs_ct r.s (by omega)) ?_)|(refine Br.d (fun h=>?_) fun h=>?_)|refine Br.swap ?_|refine Br.bnot ?_|(refine Bm (fun h=>?_) fun h=>?_)|refine T2 ?_ ?_|refine K0 ?_|refine Vm ?_ ?_
 all_goals first
  | exact checkE_big (by omega)
  | (rw [checkE_in ‹_› ‹_› ‹_›];simp only [*,Bool.and_true,Bool.true_and,Bool.and_false,Bool.false_and,Bool.not_true,Bool.not_false,if_true];done)
  | (rw [checkE_in ‹_› ‹_› ‹_›];simp only [*,Bool.and_true,Bool.true_and,Bool.and_false,Bool.false_and,Bool.not_true,Bool.not_false,if_true];rfl)
theorem rcheck_ct (r:Ru) (hr:Ru.ok r):Cr 273 [ruD r] (i64 (checkE r)):=by
 have h1:=hr.t;have h2:=hr.n;have h3:=hr.s;refine .det (De Tryz.func273 ord273 [] ?_)
 repeat' first|refine S0 ?_;conv=>whnf|exact T0|(refine Br.d (fun h=>?_) fun h=>?_)|refine Br.swap ?_|refine T2 ?_ ?_
 all_goals try exact checkE_big (by omega)
 refine Lw ord273 [] (α:=Nat) (fun i=>[(1,.loc 0 0),(3,i64 i)]) (fun i=>[(0,.var [strs r.t,prs r.n,prs r.s])]) 1 (fun i=>i<=r.t.length/\r.t.all tkn=(r.t.drop i).all tkn) (fun i=>r.t.length - i) ?_ ?_
 ·refine Again.by 0 ⟨zle _,rfl⟩ ?_
  repeat' first|refine S0 ?_;conv=>whnf|refine Vo ?_|exact T0
 ·intro i ⟨hi,hv⟩
  have hst:=fun h:i<r.t.length=>all_step tkn r.t [] i h
  repeat' first|refine S0 ?_;conv=>whnf|refine Vo ?_|exact T0|refine W6 ?_|(refine M0 (rasc_ct r.t (by omega)) ?_)|(refine M0 (rpairs_ct r.n (by omega)) ?_)|(refine M0 (rpairs_ct r.s (by omega)) ?_)|(refine Br.d (fun h=>?_) fun h=>?_)|refine Br.swap ?_|refine Br.bnot ?_|(refine Bm (fun h=>?_) fun h=>?_)|refine T2 ?_ ?_|refine K0 ?_|(refine M0 (g:=315) (rtoken_ct _) ?_)
  ·refine Again.by (i+1) ⟨⟨by omega,by rw [hv,hst (by omega),show tkn (r.t.getD i [])=true from h,Bool.true_and]⟩,by omega⟩ ?_
   repeat' first|refine S0 ?_;conv=>whnf|refine Vo ?_|exact T0
  ·rw [checkE_in ‹_› ‹_› ‹_›,titles_eq,hv,hst (by omega),show tkn (r.t.getD i [])=false from h];rfl
  ·have hT:titlesB r.t=true:=by rw [titles_eq,hv,ddl (by omega),‹ascB r.t=true›];rfl
   refine Lw ord273 [] (α:=Nat) (fun j=>[(1,.loc 0 0),(4,i64 j)]) (fun j=>[(0,.var [strs r.t,prs r.n,prs r.s])]) 1 (fun j=>j<=r.n.length/\(r.n.any fun p=>hasS r.t p.2)=((r.n.drop j).any fun p=>hasS r.t p.2)) (fun j=>r.n.length - j) ?_ ?_
   ·refine Again.by 0 ⟨zle _,rfl⟩ ?_
    repeat' first|refine S0 ?_;conv=>whnf|refine Vo ?_|exact T0
   ·intro j ⟨hj,hw⟩
    have hsu:=fun h:j<r.n.length=>any_step (fun p:Pr=>hasS r.t p.2) r.n ([],[]) j h
    repeat' first|refine S0 ?_;conv=>whnf|refine Vo ?_|exact T0|refine W6 ?_|(refine M0 (rhas_ct r.t _ (by omega)) ?_)|(refine Br.d (fun h=>?_) fun h=>?_)|(refine Bm (fun h=>?_) fun h=>?_)|refine T2 ?_ ?_|refine K1 ?_
    ·rw [checkE_in ‹_› ‹_› ‹_›,hw,hsu (by omega),show hasS r.t (r.n.getD j ([],[])).2=true from h];simp only [*,Bool.and_true,Bool.true_and,Bool.and_false,Bool.false_and,Bool.not_true,Bool.not_false,if_true];rfl
    ·refine Again.by (j+1) ⟨⟨by omega,by rw [hw,hsu (by omega),show hasS r.t (r.n.getD j ([],[])).2=false from h,Bool.false_or]⟩,by omega⟩ ?_
     repeat' first|refine S0 ?_;conv=>whnf|refine Vo ?_|exact T0
    ·rw [checkE_in ‹_› ‹_› ‹_›,hw,ddl (by omega)];simp only [*,List.any_nil,Bool.and_true,Bool.true_and,Bool.and_false,Bool.false_and,Bool.not_true,Bool.not_false,if_true]
  ·have hT:titlesB r.t=true:=by rw [titles_eq,hv,ddl (by omega),‹ascB r.t=true›];rfl
   rw [checkE_in ‹_› ‹_› ‹_›];simp only [*,Bool.and_true,Bool.true_and,Bool.and_false,Bool.false_and,Bool.not_true,Bool.not_false,if_true];rfl
  ·have hT:titlesB r.t=true:=by rw [titles_eq,hv,ddl (by omega),‹ascB r.t=true›];rfl
   rw [checkE_in ‹_› ‹_› ‹_›];simp only [*,Bool.and_true,Bool.true_and,Bool.and_false,Bool.false_and,Bool.not_true,Bool.not_false,if_true];rfl
  ·have hT:titlesB r.t=false:=by rw [titles_eq,‹ascB r.t=false›,Bool.and_false]
   rw [checkE_in ‹_› ‹_› ‹_›];simp only [*,Bool.and_true,Bool.true_and,Bool.and_false,Bool.false_and,Bool.not_true,Bool.not_false,if_true];rfl
end Kx
open Go Sx Go.Proofs
namespace Kx
theorem lettersS_ct (s:Str) (hs:s.length<=1000000000000):Cr 89 [.str s] (.str (lettersS s)):=letters_ct s hs
theorem rlettersS_ct (s:Str) (hs:s.length<=1000000000000):Cr 314 [.str s] (.str (lettersS s)):=rletters_ct s (by omega)
theorem tok_len (s:Str):∀ t ∈ toks (foldO s),t.length<=s.length:=fun t ht=>by
 have h2:=join_mem_len ht;rw [(foldO_fixed s).2] at h2;have:=foldO_le s;omega
theorem join_bd (n:Nat):∀ (l:List Str),(∀ t ∈ l,t.length<=n)->(joinS [32] l).length<=(n+1)*l.length
 | [],_=>by simp [joinS]
 | t :: l,h=>by
   have ht:=h t (by simp)
   have:∀ m:List Str,(∀ t ∈ m,t.length<=n)->(tailS [32] m).length<=(n+1)*m.length:=fun m=>by
    induction m with
    | nil=>intro _;simp [tailS]
    | cons u m ih =>
      intro hm;have hu:=hm u (by simp)
      have hi:=ih fun v hv=>hm v (by simp [hv])
      have e:tailS [32] (u :: m)=32 :: (u ++ tailS [32] m):=by simp [tailS]
      rw [e];simp only [List.length_cons,lap,Nat.mul_add,Nat.mul_one];omega
   have h2:=this l fun v hv=>h v (by simp [hv])
   unfold joinS;simp only [List.length_cons,lap,Nat.mul_add,Nat.mul_one];omega
theorem norm_bd {r:Ru} (hr:checkE r=0) {s:Str} (hs:s.length<=10000):(normL r s).length<=10001/\(joinS [32] (normL r s)).length<=1000000000:=by
 have h1:=keepL_len r (toks (foldO s));have h2:(toks (foldO s)).length<=1+(foldO s).length:=toks_count (foldO s) [];have h3:=foldO_le s;have h4:=join_bd (64+s.length) (normL r s) (keep_len hr s)
 have h5:(normL r s).length<=10001:=by unfold normL;omega
 refine ⟨h5,Nat.le_trans h4 ?_⟩
 calc (64+s.length+1)*(normL r s).length<=10065*10001:=Nat.mul_le_mul (by omega) h5
  _<=1000000000:=by decide
theorem normE_c {r:Ru} {s:Str} (h:¬checkE r=0):checkE r=normE r s/\[]=normO r s:=by
 have e:normE r s=checkE r:=by rw [normE,if_neg h]
 exact ⟨e.symm,by rw [normO,e,if_neg h]⟩
theorem normE_f {r:Ru} {s:Str} (h1:checkE r=0) (h:¬foldE s=0):foldE s=normE r s/\[]=normO r s:=by
 have e:normE r s=foldE s:=by rw [normE,if_pos h1,if_neg h]
 exact ⟨e.symm,by rw [normO,e,if_neg h]⟩
theorem normE_big {r:Ru} {s:Str} (h1:checkE r=0) (h2:foldE s=0) (h:(6:Int)<(normL r s).length\/(64:Int)<(joinS [32] (normL r s)).length):1=normE r s/\[]=normO r s:=by
 have e:normE r s=1:=by
  have:normOK r s=false:=by
   unfold normOK
   rcases h with h | h
   ·rw [decide_eq_false (by omega),Bool.false_and]
   ·rw [decide_eq_false (show ¬(joinS [32] (normL r s)).length<=64 by omega),Bool.and_false]
  rw [normE,if_pos h1,if_pos h2,this];rfl
 exact ⟨e.symm,by rw [normO,e];rfl⟩
theorem normE_ok {r:Ru} {s:Str} (h1:checkE r=0) (h2:foldE s=0) (h3:¬(6:Int)<(normL r s).length) (h4:¬(64:Int)<(joinS [32] (normL r s)).length):0=normE r s/\joinS [32] (normL r s)=normO r s:=by
 have e:normE r s=0:=by
  have:normOK r s=true:=by
   unfold normOK;rw [decide_eq_true (by omega),decide_eq_true (show (joinS [32] (normL r s)).length<=64 by omega)];rfl
  rw [normE,if_pos h1,if_pos h2,this];rfl
 exact ⟨e.symm,by rw [normO,e];rfl⟩
theorem norm_ct (r:Ru) (s:Str) (hr:Ru.ok r) (hs:s.length<=10000):Cr 196 [ruD r,.str s] (.tup [.str (normO r s),i64 (normE r s)]):=by
 have hfo:=foldO_le s;have htc:(toks (foldO s)).length<=1+(foldO s).length:=toks_count (foldO s) [];have htl:=tok_len s;refine .det (De Tryz.func196 [] [] ?_)
 repeat' first|refine S0 ?_;conv=>whnf|exact T0|(refine M0 (check_ct r hr) ?_)|(refine Br.d (fun h=>?_) fun h=>?_)|refine Br.bnot ?_|refine T2 ?_ ?_|refine K0 ?_|(refine M0 (g:=259) (fold_ct _ (by first | omega | decide | (simp;done) | (simp;omega))) ?_)|(refine M0 (g:=260) (tokens_ct _ (by first | omega | decide | (simp;done) | (simp;omega))) ?_)
 ·obtain ⟨hb1,hb2⟩:=norm_bd ‹checkE r=0› hs;have hL:normL r s=keepL r (toks (foldO s)):=rfl;generalize hT:toks (foldO s)=T at *;refine Lw [] [] (α:=Nat) (fun i=>[(2,.loc 0 0),(9,.own 2),(27,.own 1),(28,i64 T.length),(29,i64 i)]) (fun i=>[(0,.var [strs r.t,prs r.n,prs r.s]),(1,.arr 9 1 T.length fun i=>[.str (T.getD i [])]),(2,.arr 9 1 (keepL r (T.take i)).length fun j=>[.str ((keepL r (T.take i)).getD j [])])]) 3 (fun i=>i<=T.length) (fun i=>T.length - i) ?_ ?_
  ·refine Again.by 0 (zle _) ?_
   repeat' first|refine S0 ?_;conv=>whnf|refine Vo ?_|exact T0|(rfl)|refine Vm ?_ ?_
  ·intro i hi
   have hx:=fun h:(i:Int)<T.length=>htl (T.getD (i:Int).toNat []) (getD_in (by omega))
   have hkl:=keepL_len r (T.take i);rw [List.length_take] at hkl
   have hst:=fun h:(i:Int)<T.length=>keepL_step r T i (by omega)
   have hend:¬(i:Int)<T.length->keepL r (T.take i)=normL r s:=fun h=>by rw [hL,List.take_of_length_le (by omega)]
   repeat' first|refine S0 ?_;conv=>whnf|refine Vo ?_|refine Vb ?_|refine W6 ?_|(refine M0 (lettersS_ct _ (by have:=hx ‹_›;omega)) ?_)|(refine M0 (dropped_ct r _ hr) ?_)|(refine M0 (canon_ct r _ hr) ?_)|(refine Br.d (fun h=>?_) fun h=>?_)|refine Br.bnot ?_|(refine Bm (fun h=>?_) fun h=>?_)|refine K0 ?_
   all_goals try simp only [tnc] at *
   ·refine Again.by (i+1) ⟨by omega,by omega⟩ ?_
    rw [hst ‹_›,keepL_one,if_pos ‹_›,List.append_nil]
    repeat' first|refine S0 ?_;conv=>whnf|refine Vo ?_|exact T0
   ·refine Again.by (i+1) ⟨by omega,by omega⟩ ?_
    rw [hst ‹_›,keepL_one,if_neg ‹_›,if_pos ‹_›,List.append_nil]
    repeat' first|refine S0 ?_;conv=>whnf|refine Vo ?_|exact T0
   ·refine Again.by (i+1) ⟨by omega,by omega⟩ ?_
    rw [hst ‹_›,keepL_one,if_neg ‹_›,if_neg (by rw [‹hasS _ _=false›];simp)]
    repeat' first|refine S0 ?_;conv=>whnf|refine Vo ?_|exact T0|(exact str_app _ _ rfl)|refine Vm ?_ ?_
   ·rw [hend ‹_›]
    repeat' first|refine S0 ?_;conv=>whnf|exact T0|exact noSh_str _|(refine M0 (join1_ct (normL r s) (by omega) (by omega)) ?_)|(refine Br.d (fun h=>?_) fun h=>?_)|refine Br.swap ?_|refine T2 ?_ ?_|refine Vm ?_ ?_
    all_goals first
     | exact (normE_big ‹checkE r=0› ‹foldE s=0› (by omega)).1
     | exact (normE_big ‹checkE r=0› ‹foldE s=0› (by omega)).2
     | exact (normE_ok ‹checkE r=0› ‹foldE s=0› (by omega) (by omega)).1
     | exact (normE_ok ‹checkE r=0› ‹foldE s=0› (by omega) (by omega)).2
 all_goals first
  | exact (normE_c ‹¬checkE r=0›).1
  | exact (normE_c ‹¬checkE r=0›).2
  | exact (normE_f ‹checkE r=0› ‹¬foldE s=0›).1
  | exact (normE_f ‹checkE r=0› ‹¬foldE s=0›).2
theorem rnorm_ct (r:Ru) (s:Str) (hr:Ru.ok r) (hs:s.length<=10000):Cr 279 [ruD r,.str s] (.tup [.str (normO r s),i64 (normE r s)]):=by
 have hfo:=foldO_le s;have htc:(toks (foldO s)).length<=1+(foldO s).length:=toks_count (foldO s) [];have htl:=tok_len s;refine .det (De Tryz.func279 [] [] ?_)
 repeat' first|refine S0 ?_;conv=>whnf|exact T0|(refine M0 (rcheck_ct r hr) ?_)|(refine Br.d (fun h=>?_) fun h=>?_)|refine Br.bnot ?_|refine T2 ?_ ?_|refine K0 ?_|(refine M0 (g:=321) (rfold_ct _ (by first | omega | decide | (simp;done) | (simp;omega))) ?_)|(refine M0 (g:=322) (rtokens_ct _ (by first | omega | decide | (simp;done) | (simp;omega))) ?_)
 ·obtain ⟨hb1,hb2⟩:=norm_bd ‹checkE r=0› hs;have hL:normL r s=keepL r (toks (foldO s)):=rfl;generalize hT:toks (foldO s)=T at *;refine Lw [] [] (α:=Nat) (fun i=>[(2,.loc 0 0),(9,.own 1),(10,.own 2),(11,i64 i)]) (fun i=>[(0,.var [strs r.t,prs r.n,prs r.s]),(1,.arr 9 1 T.length fun i=>[.str (T.getD i [])]),(2,.arr 9 1 (keepL r (T.take i)).length fun j=>[.str ((keepL r (T.take i)).getD j [])])]) 3 (fun i=>i<=T.length) (fun i=>T.length - i) ?_ ?_
  ·refine Again.by 0 (zle _) ?_
   repeat' first|refine S0 ?_;conv=>whnf|refine Vo ?_|exact T0|(rfl)|refine Vm ?_ ?_
  ·intro i hi
   have hx:=fun h:(i:Int)<T.length=>htl (T.getD (i:Int).toNat []) (getD_in (by omega))
   have hkl:=keepL_len r (T.take i);rw [List.length_take] at hkl
   have hst:=fun h:(i:Int)<T.length=>keepL_step r T i (by omega)
   have hend:¬(i:Int)<T.length->keepL r (T.take i)=normL r s:=fun h=>by rw [hL,List.take_of_length_le (by omega)]
   repeat' first|refine S0 ?_;conv=>whnf|refine Vo ?_|refine Vb ?_|refine W6 ?_|(refine M0 (rlettersS_ct _ (by have:=hx ‹_›;omega)) ?_)|(refine M0 (rdropped_ct r _ hr) ?_)|(refine M0 (rcanon_ct r _ hr) ?_)|(refine Br.d (fun h=>?_) fun h=>?_)|refine Br.swap ?_|(refine Bm (fun h=>?_) fun h=>?_)|refine K0 ?_
   all_goals try simp only [tnc] at *
   ·refine Again.by (i+1) ⟨by omega,by omega⟩ ?_
    rw [hst ‹_›,keepL_one,if_pos ‹_›,List.append_nil]
    repeat' first|refine S0 ?_;conv=>whnf|refine Vo ?_|exact T0
   ·refine Again.by (i+1) ⟨by omega,by omega⟩ ?_
    rw [hst ‹_›,keepL_one,if_neg ‹_›,if_pos ‹_›,List.append_nil]
    repeat' first|refine S0 ?_;conv=>whnf|refine Vo ?_|exact T0
   ·refine Again.by (i+1) ⟨by omega,by omega⟩ ?_
    rw [hst ‹_›,keepL_one,if_neg ‹_›,if_neg (by rw [‹hasS _ _=false›];simp)]
    repeat' first|refine S0 ?_;conv=>whnf|refine Vo ?_|exact T0|(exact str_app _ _ rfl)|refine Vm ?_ ?_
   ·rw [hend ‹_›]
    repeat' first|refine S0 ?_;conv=>whnf|exact T0|exact noSh_str _|(refine M0 (rjoin_ct (normL r s) (by omega) (by omega)) ?_)|(refine Br.d (fun h=>?_) fun h=>?_)|refine Br.swap ?_|refine T2 ?_ ?_|refine Vm ?_ ?_
    all_goals first
     | exact (normE_big ‹checkE r=0› ‹foldE s=0› (by omega)).1
     | exact (normE_big ‹checkE r=0› ‹foldE s=0› (by omega)).2
     | exact (normE_ok ‹checkE r=0› ‹foldE s=0› (by omega) (by omega)).1
     | exact (normE_ok ‹checkE r=0› ‹foldE s=0› (by omega) (by omega)).2
 all_goals first
  | exact (normE_c ‹¬checkE r=0›).1
  | exact (normE_c ‹¬checkE r=0›).2
  | exact (normE_f ‹checkE r=0› ‹¬foldE s=0›).1
  | exact (normE_f ‹checkE r=0› ‹¬foldE s=0›).2
def normB (r:Ru) (s:Str):Bool:=decide (normE r s=0) && decide (normO r s=s)
theorem normal_ct (r:Ru) (s:Str) (hr:Ru.ok r) (hs:s.length<=10000):Cr 197 [ruD r,.str s] (.bool (normB r s)):=by
 refine .det (De Tryz.func197 [] [] ?_)
 repeat' first|refine S0 ?_;conv=>whnf|exact T0|(refine Br.d (fun h=>?_) fun h=>?_)|refine T2 ?_ ?_|refine K0 ?_|(refine M0 (g:=196) (norm_ct _ _ (by assumption) (by first | omega | decide | (simp;done) | (simp;omega))) ?_)
 ·rw [normB,decide_eq_true ‹normE r s=0›,Bool.true_and]
 ·rw [normB,decide_eq_false ‹¬normE r s=0›,Bool.false_and]
theorem rnormal_ct (r:Ru) (s:Str) (hr:Ru.ok r) (hs:s.length<=10000):Cr 275 [ruD r,.str s] (.bool (normB r s)):=by
 refine .det (De Tryz.func275 [] [] ?_)
 repeat' first|refine S0 ?_;conv=>whnf|exact T0|(refine Br.d (fun h=>?_) fun h=>?_)|refine T2 ?_ ?_|refine K0 ?_|(refine M0 (g:=279) (rnorm_ct _ _ (by assumption) (by first | omega | decide | (simp;done) | (simp;omega))) ?_)
 ·rw [normB,decide_eq_true ‹normE r s=0›,Bool.true_and]
 ·rw [normB,decide_eq_false ‹¬normE r s=0›,Bool.false_and]
end Kx
