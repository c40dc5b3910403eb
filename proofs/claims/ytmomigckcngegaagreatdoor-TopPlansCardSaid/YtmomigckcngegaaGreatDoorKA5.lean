/-
  Rules of names: the parts.
  No condition beyond those written in each theorem.
-/
import Derived.Test.YtmomigckcngegaaGreatDoorKA4
import Derived.Test.YtmomigckcngegaaGreatDoorFD
set_option linter.unusedSimpArgs false
set_option linter.unusedVariables false
set_option maxRecDepth 4000
open Go Sx Go.Proofs
namespace Kx
def prs (l:List Pr):D:=.tab 2 l.length fun i=>[.str (pGet l i).1,.str (pGet l i).2]
def pr (p:Pr):D:=.agg [.str p.1,.str p.2]
theorem token_eq (s:Str):letters s=lettersS s:=rfl
theorem nm_token_ct (s:Str):Ct Tryz.prog 136 [.str s] fun r outs=>r = .bool (tkn s)∧outs = []:=by
 refine .det (De Tryz.func136 [] [] ?_)
 repeat' first|(refine S0 ?_;conv=>whnf)|exact T0|(refine Br.d (fun h=>?_) fun h=>?_)|(refine Br.bnot ?_)|(refine T2 ?_ ?_)|(refine K0 ?_)|(refine Met.by (g:=86) (letters_ct _ (by first | omega | decide | (simp;done) | (simp;omega))) ?_;rintro q outs ⟨rfl,rfl⟩)
 ·rw [tkn,decide_eq_true (show s = [] from h)];rfl
 ·rw [tkn,decide_eq_false (show ¬s = [] from ‹_›),decide_eq_true (show s.length≤64 by omega),token_eq];rfl
 ·rw [tkn,decide_eq_false (show ¬s.length≤64 by omega),Bool.and_false];rfl
theorem rtoken_ct (s:Str):Ct Tryz.prog 192 [.str s] fun r outs=>r = .bool (tkn s)∧outs = []:=by
 refine .det (De Tryz.func192 [] [] ?_)
 repeat' first|(refine S0 ?_;conv=>whnf)|exact T0|(refine Br.d (fun h=>?_) fun h=>?_)|(refine Br.bnot ?_)|(refine T2 ?_ ?_)|(refine K0 ?_)|(refine Met.by (g:=191) (rletters_ct _ (by first | omega | decide | (simp;done) | (simp;omega))) ?_;rintro q outs ⟨rfl,rfl⟩)
 ·rw [tkn,decide_eq_true (show s = [] from h)];rfl
 ·rw [tkn,decide_eq_false (show ¬s = [] from ‹_›),decide_eq_true (show s.length≤64 by omega),token_eq];rfl
 ·rw [tkn,decide_eq_false (show ¬s.length≤64 by omega),Bool.and_false];rfl
theorem rhas_ct (l:List Str) (s:Str) (hl:l.length≤1000000000):Ct Tryz.prog 195 [strs l,.str s] fun r outs=>r = .bool (hasS l s)∧outs = []:=by
 refine .det (De Tryz.func195 [] [] ?_)
 repeat' first|(refine S0 ?_;conv=>whnf)
 refine CodeOK.loopW hΓ hm [] [] (by kernel_rfl) (α:=Nat) (fun i=>[(0,strs l),(1,.str s),(5,i64 i)]) (fun i=>[]) 0 (fun i=>i≤l.length∧hasS l s=hasS (l.drop i) s) (fun i=>l.length - i) ?_ ?_
 ·refine Again.by 0 ⟨Nat.zero_le _,rfl⟩ ?_
  repeat' first|(refine S0 ?_;conv=>whnf)|(refine Vo ?_)|exact T0
 ·intro i ⟨hi,hv⟩
  repeat' first|(refine S0 ?_;conv=>whnf)|(refine Vo ?_)|exact T0|(refine W6 ?_)|(refine Br.d (fun h=>?_) fun h=>?_)|(refine T2 ?_ ?_)
  all_goals try simp only [Int.toNat_natCast] at *
  ·rw [hv,hasS_step (by omega),decide_eq_true h];rfl
  ·refine Again.by (i+1) ⟨⟨by omega,by rw [hv,hasS_step (by omega),decide_eq_false h];rfl⟩,by omega⟩ ?_
   repeat' first|(refine S0 ?_;conv=>whnf)|(refine Vo ?_)|exact T0
  ·rw [hv,List.drop_of_length_le (by omega)];rfl
theorem index_ct (l:List Str) (s:Str) (hl:l.length≤1000000000):Ct Tryz.prog 146 [strs l,.str s] fun r outs=>r=i64 (idxF (fun x=>decide (x=s)) l)∧outs = []:=by
 refine .det (De Tryz.func146 [] [] ?_)
 repeat' first|(refine S0 ?_;conv=>whnf)
 refine CodeOK.loopW hΓ hm [] [] (by kernel_rfl) (α:=Nat) (fun i=>[(0,strs l),(1,.str s),(7,i64 l.length),(8,i64 i)]) (fun i=>[]) 0 (fun i=>i≤l.length∧(l.take i).any (fun x=>decide (x=s))=false) (fun i=>l.length - i) ?_ ?_
 ·refine Again.by 0 ⟨Nat.zero_le _,rfl⟩ ?_
  repeat' first|(refine S0 ?_;conv=>whnf)|(refine Vo ?_)|exact T0
 ·intro i ⟨hi,hv⟩
  repeat' first|(refine S0 ?_;conv=>whnf)|(refine Vo ?_)|exact T0|(refine W6 ?_)|(refine Br.d (fun h=>?_) fun h=>?_)|(refine T2 ?_ ?_)
  all_goals try simp only [Int.toNat_natCast] at *
  ·rw [idxF_at (fun x=>decide (x=s)) [] l i (by omega) hv (decide_eq_true h.symm)]
  ·refine Again.by (i+1) ⟨⟨by omega,by rw [any_take _ l [] i (by omega),hv,decide_eq_false (fun e=>h e.symm)];rfl⟩,by omega⟩ ?_
   repeat' first|(refine S0 ?_;conv=>whnf)|(refine Vo ?_)|exact T0
  ·rw [idxF_no]
   rw [show i=l.length by omega,List.take_length] at hv;exact hv
theorem contains_ct (l:List Str) (s:Str) (hl:l.length≤1000000000):Ct Tryz.prog 106 [strs l,.str s] fun r outs=>r = .bool (hasS l s)∧outs = []:=by
 refine .det (De Tryz.func106 [] [] ?_)
 repeat' first|(refine S0 ?_;conv=>whnf)|exact T0|(refine T2 ?_ ?_)|(refine K0 ?_)|(refine Met.by (g:=146) (index_ct _ _ (by first | omega | decide | (simp;done) | (simp;omega))) ?_;rintro q outs ⟨rfl,rfl⟩)
 rw [hasS_idx]
theorem from_ct (p:Pr) (s:Str):Ct Tryz.prog 178 [pr p,.ref [.str s]] fun r outs=>r = .bool (decide (p.1=s))∧outs = []:=by
 refine .det (De Tryz.func178 [] [] ?_)
 repeat' first|(refine S0 ?_;conv=>whnf)|exact T0|(refine T2 ?_ ?_)
theorem indexf_ct (l:List Pr) (s:Str) (hl:l.length≤1000000000):Ct Tryz.prog 138 [prs l,.fn 178 [.ref [.str s]]] fun r outs=>r=i64 (idxF (fun p:Pr=>decide (p.1=s)) l)∧outs = []:=by
 refine .det (De Tryz.func138 [] [] ?_)
 repeat' first|(refine S0 ?_;conv=>whnf)
 refine CodeOK.loopW hΓ hm [] [] (by kernel_rfl) (α:=Nat) (fun i=>[(0,prs l),(1,.fn 178 [.ref [.str s]]),(7,i64 l.length),(8,i64 i)]) (fun i=>[]) 0 (fun i=>i≤l.length∧(l.take i).any (fun p:Pr=>decide (p.1=s))=false) (fun i=>l.length - i) ?_ ?_
 ·refine Again.by 0 ⟨Nat.zero_le _,rfl⟩ ?_
  repeat' first|(refine S0 ?_;conv=>whnf)|(refine Vo ?_)|exact T0|(refine Cho.r ?_)
 ·intro i ⟨hi,hv⟩
  repeat' first|(refine S0 ?_;conv=>whnf)|(refine Vo ?_)|exact T0|(refine W6 ?_)|(refine Met.by (from_ct _ _) ?_;rintro q outs ⟨rfl,rfl⟩)|(refine Br.d (fun h=>?_) fun h=>?_)|(refine T2 ?_ ?_)|(refine K0 ?_)
  all_goals try simp only [Int.toNat_natCast] at *
  ·rw [idxF_at (fun p:Pr=>decide (p.1=s)) ([],[]) l i (by omega) hv (decide_eq_true h)]
  ·refine Again.by (i+1) ⟨⟨by omega,by rw [any_take _ l ([],[]) i (by omega),hv,show decide ((l.getD i ([],[])).1=s)=false from decide_eq_false h];rfl⟩,by omega⟩ ?_
   repeat' first|(refine S0 ?_;conv=>whnf)|(refine Vo ?_)|exact T0|(refine Cho.r ?_)
  ·rw [idxF_no]
   rw [show i=l.length by omega,List.take_length] at hv;exact hv
theorem find_ct (l:List Pr) (s:Str) (hl:l.length≤1000000000):Ct Tryz.prog 137 [prs l,.str s] fun r outs=>r=i64 (idxF (fun p:Pr=>decide (p.1=s)) l)∧outs = []:=by
 refine .det (De Tryz.func137 [] [] ?_)
 repeat' first|(refine S0 ?_;conv=>whnf)|exact T0|exact noSh_int _ _|(refine Met.by (indexf_ct l s hl) ?_;rintro q outs ⟨rfl,rfl⟩)|(refine T2 ?_ ?_)|(refine K0 ?_)|(refine Vm ?_ ?_)
theorem rreplace_ct (l:List Pr) (s:Str) (hl:l.length≤1000000000):Ct Tryz.prog 202 [prs l,.str s] fun r outs=>r = .str (replS l s)∧outs = []:=by
 refine .det (De Tryz.func202 [] [] ?_)
 repeat' first|(refine S0 ?_;conv=>whnf)
 refine CodeOK.loopW hΓ hm [] [] (by kernel_rfl) (α:=Nat) (fun i=>[(0,prs l),(1,.str s),(5,i64 i)]) (fun i=>[]) 0 (fun i=>i≤l.length∧replS l s=replS (l.drop i) s) (fun i=>l.length - i) ?_ ?_
 ·refine Again.by 0 ⟨Nat.zero_le _,rfl⟩ ?_
  repeat' first|(refine S0 ?_;conv=>whnf)|(refine Vo ?_)|exact T0
 ·intro i ⟨hi,hv⟩
  repeat' first|(refine S0 ?_;conv=>whnf)|(refine Vo ?_)|exact T0|(refine W6 ?_)|(refine Br.d (fun h=>?_) fun h=>?_)|(refine T2 ?_ ?_)
  all_goals try simp only [Int.toNat_natCast] at *
  ·rw [hv,replS_step (by omega),if_pos h]
  ·refine Again.by (i+1) ⟨⟨by omega,by rw [hv,replS_step (by omega),if_neg h]⟩,by omega⟩ ?_
   repeat' first|(refine S0 ?_;conv=>whnf)|(refine Vo ?_)|exact T0
  ·rw [hv,List.drop_of_length_le (by omega)];rfl
end Kx
open Go Sx Go.Proofs
namespace Kx
theorem titles_ct (l:List Str) (hl:l.length≤1000000000):Ct Tryz.prog 87 [strs l] fun r outs=>r = .bool (titlesB l)∧outs = []:=by
 refine .det (De Tryz.func87 [] [] ?_)
 repeat' first|(refine S0 ?_;conv=>whnf)
 refine CodeOK.loopW hΓ hm [] [] (by kernel_rfl) (α:=Nat) (fun i=>[(0,strs l),(5,strs l),(6,i64 l.length),(7,i64 i)]) (fun i=>[]) 0 (fun i=>i≤l.length∧titlesB l=((List.range l.length).drop i).all (tAt l)) (fun i=>l.length - i) ?_ ?_
 ·refine Again.by 0 ⟨Nat.zero_le _,rfl⟩ ?_
  repeat' first|(refine S0 ?_;conv=>whnf)|(refine Vo ?_)|exact T0
 ·intro i ⟨hi,hv⟩
  have hst:=fun h:i<l.length=>range_step (tAt l) h
  have e:((i:Int) - 1).toNat=i - 1:=by omega
  repeat' first|(refine S0 ?_;conv=>whnf)|(refine Vo ?_)|exact T0|(refine W6 ?_)|(refine Br.d (fun h=>?_) fun h=>?_)|(refine Br.swap ?_)|(refine Br.bnot ?_)|(refine Bm (fun h=>?_) fun h=>?_)|(refine T2 ?_ ?_)|(refine K0 ?_)|(refine Met.by (g:=136) (nm_token_ct _) ?_;rintro q outs ⟨rfl,rfl⟩)
  all_goals try simp only [Int.toNat_natCast,e] at *
  ·refine Again.by (i+1) ⟨⟨by omega,by rw [hv,hst (by omega),show tAt l i=true by simp [-List.getD_eq_getElem?_getD,tAt,less, *],Bool.true_and]⟩,by omega⟩ ?_
   repeat' first|(refine S0 ?_;conv=>whnf)|(refine Vo ?_)|exact T0
  ·rw [hv,hst (by omega),show tAt l i=false by simp [-List.getD_eq_getElem?_getD,tAt,less, *];omega];rfl
  ·have h0:i=0:=by omega
   refine Again.by (i+1) ⟨⟨by omega,by rw [hv,hst (by omega),show tAt l i=true by subst h0;simp [-List.getD_eq_getElem?_getD,tAt,less, *],Bool.true_and]⟩,by omega⟩ ?_
   repeat' first|(refine S0 ?_;conv=>whnf)|(refine Vo ?_)|exact T0
  ·rw [hv,hst (by omega),show tAt l i=false by simp [-List.getD_eq_getElem?_getD,tAt,less, *]];rfl
  ·rw [hv,show i=l.length by omega,range_end]
theorem npairs_ct (l:List Pr) (hl:l.length≤1000000000):Ct Tryz.prog 88 [prs l] fun r outs=>r = .bool (pairsB l)∧outs = []:=by
 refine .det (De Tryz.func88 ord88 [] ?_)
 repeat' first|(refine S0 ?_;conv=>whnf)
 refine CodeOK.loopW hΓ hm ord88 [] (by kernel_rfl) (α:=Nat) (fun i=>[(0,prs l),(5,prs l),(6,i64 l.length),(7,i64 i)]) (fun i=>[]) 0 (fun i=>i≤l.length∧pairsB l=((List.range l.length).drop i).all (pAt l)) (fun i=>l.length - i) ?_ ?_
 ·refine Again.by 0 ⟨Nat.zero_le _,rfl⟩ ?_
  repeat' first|(refine S0 ?_;conv=>whnf)|(refine Vo ?_)|exact T0
 ·intro i ⟨hi,hv⟩
  have hst:=fun h:i<l.length=>range_step (pAt l) h
  have e:((i:Int) - 1).toNat=i - 1:=by omega
  have hf:=find_idx l (pGet l i).2
  repeat' first|(refine S0 ?_;conv=>whnf)|(refine Vo ?_)|exact T0|(refine W6 ?_)|(refine Br.d (fun h=>?_) fun h=>?_)|(refine Br.swap ?_)|(refine Br.bnot ?_)|(refine Bm (fun h=>?_) fun h=>?_)|(refine T2 ?_ ?_)|(refine K1 ?_)|(refine Met.by (g:=136) (nm_token_ct _) ?_;rintro q outs ⟨rfl,rfl⟩)|(refine Met.by (g:=137) (find_ct _ _ (by first | omega | decide | (simp;done) | (simp;omega))) ?_;rintro q outs ⟨rfl,rfl⟩)
  all_goals try simp only [Int.toNat_natCast,e] at *
  ·rw [hv,hst (by omega),show pAt l i=false by rw [pAt,←hf,decide_eq_true ‹0≤idxF _ l›];simp];rfl
  ·refine Again.by (i+1) ⟨⟨by omega,by rw [hv,hst (by omega),show pAt l i=true by rw [pAt,←hf,decide_eq_false ‹¬0≤idxF _ l›];simp [-List.getD_eq_getElem?_getD,less, *],Bool.true_and]⟩,by omega⟩ ?_
   repeat' first|(refine S0 ?_;conv=>whnf)|(refine Vo ?_)|exact T0
  ·rw [hv,hst (by omega),show pAt l i=false by (have h0:¬i=0:=by omega);simp [-List.getD_eq_getElem?_getD,pAt,less, *]];rfl
  ·rw [hv,hst (by omega),show pAt l i=false by rw [pAt,←hf,decide_eq_true ‹0≤idxF _ l›];simp];rfl
  ·have h0:i=0:=by omega
   refine Again.by (i+1) ⟨⟨by omega,by rw [hv,hst (by omega),show pAt l i=true by subst h0;rw [pAt,←hf,decide_eq_false ‹¬0≤idxF _ l›];simp [-List.getD_eq_getElem?_getD,less, *],Bool.true_and]⟩,by omega⟩ ?_
   repeat' first|(refine S0 ?_;conv=>whnf)|(refine Vo ?_)|exact T0
  ·rw [hv,hst (by omega),show pAt l i=false by rw [pAt,h];simp];rfl
  ·rw [hv,hst (by omega),show pAt l i=false by rw [pAt,h];simp];rfl
  ·rw [hv,show i=l.length by omega,range_end]
theorem rasc_ct (l:List Str) (hl:l.length≤1000000000):Ct Tryz.prog 193 [strs l] fun r outs=>r = .bool (ascB l)∧outs = []:=by
 refine .det (De Tryz.func193 ord193 [] ?_)
 repeat' first|(refine S0 ?_;conv=>whnf)
 refine CodeOK.loopW hΓ hm ord193 [] (by kernel_rfl) (α:=Nat) (fun i=>[(0,strs l),(3,i64 i)]) (fun i=>[]) 0 (fun i=>1≤i∧ascB l=((List.range l.length).drop i).all (aAt l)) (fun i=>l.length - i) ?_ ?_
 ·refine Again.by 1 ⟨Nat.le_refl _,rfl⟩ ?_
  repeat' first|(refine S0 ?_;conv=>whnf)|(refine Vo ?_)|exact T0
 ·intro i ⟨hi,hv⟩
  have hst:=fun h:i<l.length=>range_step (aAt l) h
  have e:((i:Int) - 1).toNat=i - 1:=by omega
  have ht:=less_tot (l.getD i []) (l.getD (i - 1) [])
  repeat' first|(refine S0 ?_;conv=>whnf)|(refine Vo ?_)|exact T0|(refine W6 ?_)|(refine Br.d (fun h=>?_) fun h=>?_)|(refine Bm (fun h=>?_) fun h=>?_)|(refine T2 ?_ ?_)
  all_goals try simp only [Int.toNat_natCast,e] at *
  ·rw [hv,hst (by omega),show aAt l i=false by rw [h] at ht;unfold aAt;simpa using ht.symm];rfl
  ·refine Again.by (i+1) ⟨⟨by omega,by rw [hv,hst (by omega),show aAt l i=true by rw [h] at ht;unfold aAt;simpa using ht.symm,Bool.true_and]⟩,by omega⟩ ?_
   repeat' first|(refine S0 ?_;conv=>whnf)|(refine Vo ?_)|exact T0
  ·rw [hv,List.drop_of_length_le (by simp;omega)];rfl
theorem froms_app (l:List Pr) (i:Nat) (h:i<l.length):froms (l.take (i+1))=froms (l.take i) ++ [(pGet l i).1]:=by
 rw [take_step l ([],[]) i h];simp [froms,pGet]
theorem rpairs_ct (l:List Pr) (hl:l.length≤1000000000):Ct Tryz.prog 194 [prs l] fun r outs=>r = .bool (pairsB l)∧outs = []:=by
 rw [pairs_eq]
 refine .det (De Tryz.func194 [] [] ?_)
 repeat' first|(refine S0 ?_;conv=>whnf)
 refine CodeOK.loopW hΓ hm [] [] (by kernel_rfl) (α:=Nat) (fun i=>[(0,prs l),(3,.own 0),(4,i64 i)]) (fun i=>[(0,.arr 9 1 (froms (l.take i)).length fun j=>[.str ((froms (l.take i)).getD j [])])]) 1 (fun i=>i≤l.length∧(l.all fun p=>tkn p.1 && tkn p.2)=((l.drop i).all fun p=>tkn p.1 && tkn p.2)) (fun i=>l.length - i) ?_ ?_
 ·refine Again.by 0 ⟨Nat.zero_le _,rfl⟩ ?_
  repeat' first|(refine S0 ?_;conv=>whnf)|(refine Vo ?_)|exact T0|(rfl)|(refine Vm ?_ ?_)
 ·intro i ⟨hi,hv⟩
  have hst:=fun h:i<l.length=>all_step (fun p:Pr=>tkn p.1 && tkn p.2) l ([],[]) i h
  have hfl:(froms (l.take i)).length≤1000000000:=by rw [froms_len,List.length_take];omega
  repeat' first|(refine S0 ?_;conv=>whnf)|(refine Vo ?_)|(refine Vb ?_)|exact T0|(refine W6 ?_)|(refine Br.d (fun h=>?_) fun h=>?_)|(refine Br.swap ?_)|(refine Br.bnot ?_)|(refine Bm (fun h=>?_) fun h=>?_)|(refine T2 ?_ ?_)|(refine K0 ?_)|(refine Met.by (g:=192) (rtoken_ct _) ?_;rintro q outs ⟨rfl,rfl⟩)
  all_goals try simp only [Int.toNat_natCast] at *
  ·refine Again.by (i+1) ⟨⟨by omega,by rw [hv,hst (by omega)];show ((tkn (pGet l i).1 && tkn (pGet l i).2) && _)=_;rw [‹tkn (pGet l i).1=true›,‹tkn (pGet l i).2=true›];rfl⟩,by omega⟩ ?_
   rw [froms_app l i (by omega)]
   repeat' first|(refine S0 ?_;conv=>whnf)|(refine Vo ?_)|exact T0|(exact str_app _ _ rfl)|(refine Vm ?_ ?_)
  ·rw [hv,hst (by omega),show tkn (l.getD i ([],[])).2=false from ‹tkn (pGet l i).2=false›,Bool.and_false,Bool.false_and,Bool.false_and]
  ·rw [hv,hst (by omega),show tkn (l.getD i ([],[])).1=false from ‹tkn (pGet l i).1=false›,Bool.false_and,Bool.false_and,Bool.false_and]
  ·have hT:(l.all fun p=>tkn p.1 && tkn p.2)=true:=by rw [hv,List.drop_of_length_le (by omega)];rfl
   rw [hT,show l.take i=l from List.take_of_length_le (by omega)]
   have hfl:(froms l).length≤1000000000:=by rw [froms_len];omega
   refine CodeOK.loopW hΓ hm [] [] (by kernel_rfl) (α:=Nat) (fun j=>[(0,prs l),(3,.own 0),(5,i64 j)]) (fun j=>[(0,.arr 9 1 (froms l).length fun j=>[.str ((froms l).getD j [])])]) 1 (fun j=>j≤l.length∧(l.all fun p=>!hasS (froms l) p.2)=((l.drop j).all fun p=>!hasS (froms l) p.2)) (fun j=>l.length - j) ?_ ?_
   ·refine Again.by 0 ⟨Nat.zero_le _,rfl⟩ ?_
    repeat' first|(refine S0 ?_;conv=>whnf)|(refine Vo ?_)|exact T0
   ·intro j ⟨hj,hv⟩
    have hst:=fun h:j<l.length=>all_step (fun p:Pr=>!hasS (froms l) p.2) l ([],[]) j h
    repeat' first|(refine S0 ?_;conv=>whnf)|(refine Vo ?_)|exact T0|exact noSh_bool _|(refine W6 ?_)|(refine Br.d (fun h=>?_) fun h=>?_)|(refine Bm (fun h=>?_) fun h=>?_)|(refine T2 ?_ ?_)|(refine K0 ?_)|(refine Met.by (g:=193) (rasc_ct _ (by first | omega | decide | (simp;done) | (simp;omega))) ?_;rintro q outs ⟨rfl,rfl⟩)|(refine Met.by (g:=195) (rhas_ct _ _ (by first | omega | decide | (simp;done) | (simp;omega))) ?_;rintro q outs ⟨rfl,rfl⟩)|(refine Vm ?_ ?_)
    all_goals try simp only [Int.toNat_natCast] at *
    ·rw [hv,hst (by omega),show hasS (froms l) (l.getD j ([],[])).2=true from h,Bool.true_and];rfl
    ·refine Again.by (j+1) ⟨⟨by omega,by rw [hv,hst (by omega),show hasS (froms l) (l.getD j ([],[])).2=false from h];rfl⟩,by omega⟩ ?_
     repeat' first|(refine S0 ?_;conv=>whnf)|(refine Vo ?_)|exact T0
    ·rw [hv,List.drop_of_length_le (by omega),Bool.true_and];rfl
end Kx
open Go Sx Go.Proofs
namespace Kx
def ruD (r:Ru):D:=.agg [strs r.t,prs r.n,prs r.s]
structure Ru.ok (r:Ru):Prop where
 t:r.t.length≤1000
 n:r.n.length≤1000
 s:r.s.length≤1000
theorem any_idx {α:Type} (p:α→Bool) (l:List α):decide (0≤idxF p l)=l.any p:=by
 have:=idxF_neg p l
 cases h:l.any p with
 | true =>
   refine decide_eq_true (Int.not_lt.1 fun h2=>?_)
   rw [this.1 h2] at h;cases h
 | false=>have:=this.2 h;exact decide_eq_false (by omega)
theorem dropped_ct (r:Ru) (s:Str) (hr:Ru.ok r):Ct Tryz.prog 91 [ruD r,.str s] fun q outs=>q = .bool (hasS r.t s)∧outs = []:=by
 have h1:=hr.t
 refine .det (De Tryz.func91 [] [] ?_)
 repeat' first|(refine S0 ?_;conv=>whnf)|exact T0|(refine Met.by (contains_ct r.t s (by omega)) ?_;rintro q outs ⟨rfl,rfl⟩)|(refine T2 ?_ ?_)|(refine K0 ?_)
theorem rdropped_ct (r:Ru) (s:Str) (hr:Ru.ok r):Ct Tryz.prog 198 [ruD r,.str s] fun q outs=>q = .bool (hasS r.t s)∧outs = []:=by
 have h1:=hr.t
 refine .det (De Tryz.func198 [] [] ?_)
 repeat' first|(refine S0 ?_;conv=>whnf)|exact T0|(refine Met.by (rhas_ct r.t s (by omega)) ?_;rintro q outs ⟨rfl,rfl⟩)|(refine T2 ?_ ?_)|(refine K0 ?_)
theorem canon_ct (r:Ru) (s:Str) (hr:Ru.ok r):Ct Tryz.prog 210 [ruD r,.str s] fun q outs=>q = .str (replS r.n s)∧outs = []:=by
 have h1:=hr.n
 refine .det (De Tryz.func210 [] [] ?_)
 repeat' first|(refine S0 ?_;conv=>whnf)|exact T0|(refine Met.by (find_ct r.n s (by omega)) ?_;rintro q outs ⟨rfl,rfl⟩)|(refine Br.d (fun h=>?_) fun h=>?_)|(refine T2 ?_ ?_)|(refine K0 ?_)|(refine Vm ?_ ?_)
 ·have:=idxF_find (fun p:Pr=>decide (p.1=s)) ([],[]) r.n ‹_›
  omega
 ·rw [replS_at ‹_›]
 ·rw [replS_no (by omega)]
theorem rcanon_ct (r:Ru) (s:Str) (hr:Ru.ok r):Ct Tryz.prog 199 [ruD r,.str s] fun q outs=>q = .str (replS r.n s)∧outs = []:=by
 have h1:=hr.n
 refine .det (De Tryz.func199 [] [] ?_)
 repeat' first|(refine S0 ?_;conv=>whnf)|exact T0|(refine Met.by (rreplace_ct r.n s (by omega)) ?_;rintro q outs ⟨rfl,rfl⟩)|(refine T2 ?_ ?_)|(refine K0 ?_)
theorem ctitle_ct (p:Pr) (r:Ru) (hr:Ru.ok r):Ct Tryz.prog 90 [pr p,.ref [strs r.t,prs r.n,prs r.s]] fun q outs=>q = .bool (hasS r.t p.2)∧outs = []:=by
 refine .det (De Tryz.func90 [] [] ?_)
 repeat' first|(refine S0 ?_;conv=>whnf)|exact T0|(refine Met.by (dropped_ct r p.2 hr) ?_;rintro q outs ⟨rfl,rfl⟩)|(refine T2 ?_ ?_)|(refine K0 ?_)
theorem indexg_ct (l:List Pr) (q:Ru) (hq:Ru.ok q) (hl:l.length≤1000000000):Ct Tryz.prog 138 [prs l,.fn 90 [.ref [strs q.t,prs q.n,prs q.s]]] fun r outs=>r=i64 (idxF (fun p:Pr=>hasS q.t p.2) l)∧outs = []:=by
 refine .det (De Tryz.func138 [] [] ?_)
 repeat' first|(refine S0 ?_;conv=>whnf)
 refine CodeOK.loopW hΓ hm [] [] (by kernel_rfl) (α:=Nat) (fun i=>[(0,prs l),(1,.fn 90 [.ref [strs q.t,prs q.n,prs q.s]]),(7,i64 l.length),(8,i64 i)]) (fun i=>[]) 0 (fun i=>i≤l.length∧(l.take i).any (fun p:Pr=>hasS q.t p.2)=false) (fun i=>l.length - i) ?_ ?_
 ·refine Again.by 0 ⟨Nat.zero_le _,rfl⟩ ?_
  repeat' first|(refine S0 ?_;conv=>whnf)|(refine Vo ?_)|exact T0|(refine Cho.r ?_)
 ·intro i ⟨hi,hv⟩
  repeat' first|(refine S0 ?_;conv=>whnf)|(refine Vo ?_)|exact T0|(refine W6 ?_)|(refine Met.by (ctitle_ct _ q hq) ?_;rintro q outs ⟨rfl,rfl⟩)|(refine Br.d (fun h=>?_) fun h=>?_)|(refine Bm (fun h=>?_) fun h=>?_)|(refine T2 ?_ ?_)|(refine K0 ?_)
  all_goals try simp only [Int.toNat_natCast] at *
  ·rw [idxF_at (fun p:Pr=>hasS q.t p.2) ([],[]) l i (by omega) hv h]
  ·refine Again.by (i+1) ⟨⟨by omega,by rw [any_take _ l ([],[]) i (by omega),hv,show hasS q.t (l.getD i ([],[])).2=false from h];rfl⟩,by omega⟩ ?_
   repeat' first|(refine S0 ?_;conv=>whnf)|(refine Vo ?_)|exact T0|(refine Cho.r ?_)
  ·rw [idxF_no]
   rw [show i=l.length by omega,List.take_length] at hv;exact hv
theorem containsf_ct (q:Ru) (hq:Ru.ok q):Ct Tryz.prog 89 [prs q.n,.fn 90 [.ref [strs q.t,prs q.n,prs q.s]]] fun r outs=>r = .bool (q.n.any fun p=>hasS q.t p.2)∧outs = []:=by
 have h1:=hq.n
 refine .det (De Tryz.func89 [] [] ?_)
 repeat' first|(refine S0 ?_;conv=>whnf)|exact T0|(refine Met.by (indexg_ct q.n q hq (by omega)) ?_;rintro q outs ⟨rfl,rfl⟩)|(refine T2 ?_ ?_)|(refine K0 ?_)
 exact any_idx _ _
theorem checkE_big {r:Ru} (h:(32:Int)<r.t.length∨(32:Int)<r.n.length∨(32:Int)<r.s.length):1=checkE r:=by
 rw [checkE,if_neg (by omega)]
theorem checkE_in {r:Ru} (h1:¬(32:Int)<r.t.length) (h2:¬(32:Int)<r.n.length) (h3:¬(32:Int)<r.s.length):checkE r=if (titlesB r.t && pairsB r.n && pairsB r.s && !(r.n.any fun p=>hasS r.t p.2))=true then 0 else 5:=by
 rw [checkE,if_pos (by omega)]
theorem check_ct (r:Ru) (hr:Ru.ok r):Ct Tryz.prog 57 [ruD r] fun q outs=>q=i64 (checkE r)∧outs = []:=by
 have h1:=hr.t;have h2:=hr.n;have h3:=hr.s
 refine .det (De Tryz.func57 [] [] ?_)
 repeat' first|(refine S0 ?_;conv=>whnf)|exact T0|exact noSh_bool _|(refine Met.by (containsf_ct r hr) ?_;rintro q outs ⟨rfl,rfl⟩)|(refine Met.by (titles_ct r.t (by omega)) ?_;rintro q outs ⟨rfl,rfl⟩)|(refine Met.by (npairs_ct r.n (by omega)) ?_;rintro q outs ⟨rfl,rfl⟩)|(refine Met.by (npairs_ct r.s (by omega)) ?_;rintro q outs ⟨rfl,rfl⟩)|(refine Br.d (fun h=>?_) fun h=>?_)|(refine Br.swap ?_)|(refine Br.bnot ?_)|(refine Bm (fun h=>?_) fun h=>?_)|(refine T2 ?_ ?_)|(refine K0 ?_)|(refine Vm ?_ ?_)
 all_goals first
  | exact checkE_big (by omega)
  | (rw [checkE_in ‹_› ‹_› ‹_›];simp only [*,Bool.and_true,Bool.true_and,Bool.and_false,Bool.false_and,Bool.not_true,Bool.not_false,if_true];done)
  | (rw [checkE_in ‹_› ‹_› ‹_›];simp only [*,Bool.and_true,Bool.true_and,Bool.and_false,Bool.false_and,Bool.not_true,Bool.not_false,if_true];rfl)
theorem rcheck_ct (r:Ru) (hr:Ru.ok r):Ct Tryz.prog 153 [ruD r] fun q outs=>q=i64 (checkE r)∧outs = []:=by
 have h1:=hr.t;have h2:=hr.n;have h3:=hr.s
 refine .det (De Tryz.func153 ord153 [] ?_)
 repeat' first|(refine S0 ?_;conv=>whnf)|exact T0|(refine Br.d (fun h=>?_) fun h=>?_)|(refine Br.swap ?_)|(refine T2 ?_ ?_)
 all_goals try exact checkE_big (by omega)
 refine CodeOK.loopW hΓ hm ord153 [] (by kernel_rfl) (α:=Nat) (fun i=>[(1,.loc 0 0),(3,i64 i)]) (fun i=>[(0,.var [strs r.t,prs r.n,prs r.s])]) 1 (fun i=>i≤r.t.length∧r.t.all tkn=(r.t.drop i).all tkn) (fun i=>r.t.length - i) ?_ ?_
 ·refine Again.by 0 ⟨Nat.zero_le _,rfl⟩ ?_
  repeat' first|(refine S0 ?_;conv=>whnf)|(refine Vo ?_)|exact T0
 ·intro i ⟨hi,hv⟩
  have hst:=fun h:i<r.t.length=>all_step tkn r.t [] i h
  repeat' first|(refine S0 ?_;conv=>whnf)|(refine Vo ?_)|exact T0|(refine W6 ?_)|(refine Met.by (rasc_ct r.t (by omega)) ?_;rintro q outs ⟨rfl,rfl⟩)|(refine Met.by (rpairs_ct r.n (by omega)) ?_;rintro q outs ⟨rfl,rfl⟩)|(refine Met.by (rpairs_ct r.s (by omega)) ?_;rintro q outs ⟨rfl,rfl⟩)|(refine Br.d (fun h=>?_) fun h=>?_)|(refine Br.swap ?_)|(refine Br.bnot ?_)|(refine Bm (fun h=>?_) fun h=>?_)|(refine T2 ?_ ?_)|(refine K0 ?_)|(refine Met.by (g:=192) (rtoken_ct _) ?_;rintro q outs ⟨rfl,rfl⟩)
  ·refine Again.by (i+1) ⟨⟨by omega,by rw [hv,hst (by omega),show tkn (r.t.getD i [])=true from h,Bool.true_and]⟩,by omega⟩ ?_
   repeat' first|(refine S0 ?_;conv=>whnf)|(refine Vo ?_)|exact T0
  ·rw [checkE_in ‹_› ‹_› ‹_›,titles_eq,hv,hst (by omega),show tkn (r.t.getD i [])=false from h];rfl
  ·have hT:titlesB r.t=true:=by rw [titles_eq,hv,List.drop_of_length_le (by omega),‹ascB r.t=true›];rfl
   refine CodeOK.loopW hΓ hm ord153 [] (by kernel_rfl) (α:=Nat) (fun j=>[(1,.loc 0 0),(4,i64 j)]) (fun j=>[(0,.var [strs r.t,prs r.n,prs r.s])]) 1 (fun j=>j≤r.n.length∧(r.n.any fun p=>hasS r.t p.2)=((r.n.drop j).any fun p=>hasS r.t p.2)) (fun j=>r.n.length - j) ?_ ?_
   ·refine Again.by 0 ⟨Nat.zero_le _,rfl⟩ ?_
    repeat' first|(refine S0 ?_;conv=>whnf)|(refine Vo ?_)|exact T0
   ·intro j ⟨hj,hw⟩
    have hsu:=fun h:j<r.n.length=>any_step (fun p:Pr=>hasS r.t p.2) r.n ([],[]) j h
    repeat' first|(refine S0 ?_;conv=>whnf)|(refine Vo ?_)|exact T0|(refine W6 ?_)|(refine Met.by (rhas_ct r.t _ (by omega)) ?_;rintro q outs ⟨rfl,rfl⟩)|(refine Br.d (fun h=>?_) fun h=>?_)|(refine Bm (fun h=>?_) fun h=>?_)|(refine T2 ?_ ?_)|(refine K1 ?_)
    ·rw [checkE_in ‹_› ‹_› ‹_›,hw,hsu (by omega),show hasS r.t (r.n.getD j ([],[])).2=true from h];simp only [*,Bool.and_true,Bool.true_and,Bool.and_false,Bool.false_and,Bool.not_true,Bool.not_false,if_true];rfl
    ·refine Again.by (j+1) ⟨⟨by omega,by rw [hw,hsu (by omega),show hasS r.t (r.n.getD j ([],[])).2=false from h,Bool.false_or]⟩,by omega⟩ ?_
     repeat' first|(refine S0 ?_;conv=>whnf)|(refine Vo ?_)|exact T0
    ·rw [checkE_in ‹_› ‹_› ‹_›,hw,List.drop_of_length_le (by omega)];simp only [*,List.any_nil,Bool.and_true,Bool.true_and,Bool.and_false,Bool.false_and,Bool.not_true,Bool.not_false,if_true]
  ·have hT:titlesB r.t=true:=by rw [titles_eq,hv,List.drop_of_length_le (by omega),‹ascB r.t=true›];rfl
   rw [checkE_in ‹_› ‹_› ‹_›];simp only [*,Bool.and_true,Bool.true_and,Bool.and_false,Bool.false_and,Bool.not_true,Bool.not_false,if_true];rfl
  ·have hT:titlesB r.t=true:=by rw [titles_eq,hv,List.drop_of_length_le (by omega),‹ascB r.t=true›];rfl
   rw [checkE_in ‹_› ‹_› ‹_›];simp only [*,Bool.and_true,Bool.true_and,Bool.and_false,Bool.false_and,Bool.not_true,Bool.not_false,if_true];rfl
  ·have hT:titlesB r.t=false:=by rw [titles_eq,‹ascB r.t=false›,Bool.and_false]
   rw [checkE_in ‹_› ‹_› ‹_›];simp only [*,Bool.and_true,Bool.true_and,Bool.and_false,Bool.false_and,Bool.not_true,Bool.not_false,if_true];rfl
end Kx
open Go Sx Go.Proofs
namespace Kx
theorem lettersS_ct (s:Str) (hs:s.length≤1000000000000):Ct Tryz.prog 86 [.str s] fun r outs=>r = .str (lettersS s)∧outs = []:=letters_ct s hs
theorem rlettersS_ct (s:Str) (hs:s.length≤1000000000000):Ct Tryz.prog 191 [.str s] fun r outs=>r = .str (lettersS s)∧outs = []:=rletters_ct s (by omega)
theorem tok_len (s:Str):∀ t ∈ toks (foldO s),t.length≤s.length:=fun t ht=>by
 have h2:=join_mem_len ht
 rw [(foldO_fixed s).2] at h2
 have:=foldO_le s
 omega
theorem join_bd (n:Nat):∀ (l:List Str),(∀ t ∈ l,t.length≤n)→(joinS [32] l).length≤(n+1)*l.length
 | [],_=>by simp [joinS]
 | t :: l,h=>by
   have ht:=h t (by simp)
   have:∀ m:List Str,(∀ t ∈ m,t.length≤n)→(tailS [32] m).length≤(n+1)*m.length:=fun m=>by
    induction m with
    | nil=>intro _;simp [tailS]
    | cons u m ih =>
      intro hm
      have hu:=hm u (by simp)
      have hi:=ih fun v hv=>hm v (by simp [hv])
      have e:tailS [32] (u :: m)=32 :: (u ++ tailS [32] m):=by simp [tailS]
      rw [e];simp only [List.length_cons,List.length_append,Nat.mul_add,Nat.mul_one];omega
   have h2:=this l fun v hv=>h v (by simp [hv])
   unfold joinS
   simp only [List.length_cons,List.length_append,Nat.mul_add,Nat.mul_one];omega
theorem norm_bd {r:Ru} (hr:checkE r=0) {s:Str} (hs:s.length≤10000):(normL r s).length≤10001∧(joinS [32] (normL r s)).length≤1000000000:=by
 have h1:=keepL_len r (toks (foldO s))
 have h2:(toks (foldO s)).length≤1+(foldO s).length:=toks_count (foldO s) []
 have h3:=foldO_le s
 have h4:=join_bd (64+s.length) (normL r s) (keep_len hr s)
 have h5:(normL r s).length≤10001:=by unfold normL;omega
 refine ⟨h5,Nat.le_trans h4 ?_⟩
 calc (64+s.length+1)*(normL r s).length≤10065*10001:=Nat.mul_le_mul (by omega) h5
  _≤1000000000:=by decide
theorem normE_c {r:Ru} {s:Str} (h:¬checkE r=0):checkE r=normE r s∧[]=normO r s:=by
 have e:normE r s=checkE r:=by rw [normE,if_neg h]
 exact ⟨e.symm,by rw [normO,e,if_neg h]⟩
theorem normE_f {r:Ru} {s:Str} (h1:checkE r=0) (h:¬foldE s=0):foldE s=normE r s∧[]=normO r s:=by
 have e:normE r s=foldE s:=by rw [normE,if_pos h1,if_neg h]
 exact ⟨e.symm,by rw [normO,e,if_neg h]⟩
theorem normE_big {r:Ru} {s:Str} (h1:checkE r=0) (h2:foldE s=0) (h:(6:Int)<(normL r s).length∨(64:Int)<(joinS [32] (normL r s)).length):1=normE r s∧[]=normO r s:=by
 have e:normE r s=1:=by
  have:normOK r s=false:=by
   unfold normOK
   rcases h with h | h
   ·rw [decide_eq_false (by omega),Bool.false_and]
   ·rw [decide_eq_false (show ¬(joinS [32] (normL r s)).length≤64 by omega),Bool.and_false]
  rw [normE,if_pos h1,if_pos h2,this];rfl
 exact ⟨e.symm,by rw [normO,e];rfl⟩
theorem normE_ok {r:Ru} {s:Str} (h1:checkE r=0) (h2:foldE s=0) (h3:¬(6:Int)<(normL r s).length) (h4:¬(64:Int)<(joinS [32] (normL r s)).length):0=normE r s∧joinS [32] (normL r s)=normO r s:=by
 have e:normE r s=0:=by
  have:normOK r s=true:=by
   unfold normOK
   rw [decide_eq_true (by omega),decide_eq_true (show (joinS [32] (normL r s)).length≤64 by omega)];rfl
  rw [normE,if_pos h1,if_pos h2,this];rfl
 exact ⟨e.symm,by rw [normO,e];rfl⟩
theorem norm_ct (r:Ru) (s:Str) (hr:Ru.ok r) (hs:s.length≤10000):Ct Tryz.prog 162 [ruD r,.str s] fun q outs=>q = .tup [.str (normO r s),i64 (normE r s)]∧outs = []:=by
 have hfo:=foldO_le s
 have htc:(toks (foldO s)).length≤1+(foldO s).length:=toks_count (foldO s) []
 have htl:=tok_len s
 refine .det (De Tryz.func162 [] [] ?_)
 repeat' first|(refine S0 ?_;conv=>whnf)|exact T0|(refine Met.by (check_ct r hr) ?_;rintro q outs ⟨rfl,rfl⟩)|(refine Br.d (fun h=>?_) fun h=>?_)|(refine Br.bnot ?_)|(refine T2 ?_ ?_)|(refine K0 ?_)|(refine Met.by (g:=208) (fold_ct _ (by first | omega | decide | (simp;done) | (simp;omega))) ?_;rintro q outs ⟨rfl,rfl⟩)|(refine Met.by (g:=209) (tokens_ct _ (by first | omega | decide | (simp;done) | (simp;omega))) ?_;rintro q outs ⟨rfl,rfl⟩)
 ·obtain ⟨hb1,hb2⟩:=norm_bd ‹checkE r=0› hs
  have hL:normL r s=keepL r (toks (foldO s)):=rfl
  generalize hT:toks (foldO s)=T at *
  refine CodeOK.loopW hΓ hm [] [] (by kernel_rfl) (α:=Nat) (fun i=>[(2,.loc 0 0),(9,.own 2),(27,.own 1),(28,i64 T.length),(29,i64 i)]) (fun i=>[(0,.var [strs r.t,prs r.n,prs r.s]),(1,.arr 9 1 T.length fun i=>[.str (T.getD i [])]),(2,.arr 9 1 (keepL r (T.take i)).length fun j=>[.str ((keepL r (T.take i)).getD j [])])]) 3 (fun i=>i≤T.length) (fun i=>T.length - i) ?_ ?_
  ·refine Again.by 0 (Nat.zero_le _) ?_
   repeat' first|(refine S0 ?_;conv=>whnf)|(refine Vo ?_)|exact T0|(rfl)|(refine Vm ?_ ?_)
  ·intro i hi
   have hx:=fun h:(i:Int)<T.length=>htl (T.getD (i:Int).toNat []) (getD_in (by omega))
   have hkl:=keepL_len r (T.take i)
   rw [List.length_take] at hkl
   have hst:=fun h:(i:Int)<T.length=>keepL_step r T i (by omega)
   have hend:¬(i:Int)<T.length→keepL r (T.take i)=normL r s:=fun h=>by rw [hL,List.take_of_length_le (by omega)]
   repeat' first|(refine S0 ?_;conv=>whnf)|(refine Vo ?_)|(refine Vb ?_)|(refine W6 ?_)|(refine Met.by (lettersS_ct _ (by have:=hx ‹_›;omega)) ?_;rintro q outs ⟨rfl,rfl⟩)|(refine Met.by (dropped_ct r _ hr) ?_;rintro q outs ⟨rfl,rfl⟩)|(refine Met.by (canon_ct r _ hr) ?_;rintro q outs ⟨rfl,rfl⟩)|(refine Br.d (fun h=>?_) fun h=>?_)|(refine Br.bnot ?_)|(refine Bm (fun h=>?_) fun h=>?_)|(refine K0 ?_)
   all_goals try simp only [Int.toNat_natCast] at *
   ·refine Again.by (i+1) ⟨by omega,by omega⟩ ?_
    rw [hst ‹_›,keepL_one,if_pos ‹_›,List.append_nil]
    repeat' first|(refine S0 ?_;conv=>whnf)|(refine Vo ?_)|exact T0
   ·refine Again.by (i+1) ⟨by omega,by omega⟩ ?_
    rw [hst ‹_›,keepL_one,if_neg ‹_›,if_pos ‹_›,List.append_nil]
    repeat' first|(refine S0 ?_;conv=>whnf)|(refine Vo ?_)|exact T0
   ·refine Again.by (i+1) ⟨by omega,by omega⟩ ?_
    rw [hst ‹_›,keepL_one,if_neg ‹_›,if_neg (by rw [‹hasS _ _=false›];simp)]
    repeat' first|(refine S0 ?_;conv=>whnf)|(refine Vo ?_)|exact T0|(exact str_app _ _ rfl)|(refine Vm ?_ ?_)
   ·rw [hend ‹_›]
    repeat' first|(refine S0 ?_;conv=>whnf)|exact T0|exact noSh_str _|(refine Met.by (join1_ct (normL r s) (by omega) (by omega)) ?_;rintro q outs ⟨rfl,rfl⟩)|(refine Br.d (fun h=>?_) fun h=>?_)|(refine Br.swap ?_)|(refine T2 ?_ ?_)|(refine Vm ?_ ?_)
    all_goals first
     | exact (normE_big ‹checkE r=0› ‹foldE s=0› (by omega)).1
     | exact (normE_big ‹checkE r=0› ‹foldE s=0› (by omega)).2
     | exact (normE_ok ‹checkE r=0› ‹foldE s=0› (by omega) (by omega)).1
     | exact (normE_ok ‹checkE r=0› ‹foldE s=0› (by omega) (by omega)).2
 all_goals first
  | exact (normE_c ‹¬checkE r=0›).1
  | exact (normE_c ‹¬checkE r=0›).2
  | exact (normE_f ‹checkE r=0› ‹¬foldE s=0›).1
  | exact (normE_f ‹checkE r=0› ‹¬foldE s=0›).2
theorem rnorm_ct (r:Ru) (s:Str) (hr:Ru.ok r) (hs:s.length≤10000):Ct Tryz.prog 154 [ruD r,.str s] fun q outs=>q = .tup [.str (normO r s),i64 (normE r s)]∧outs = []:=by
 have hfo:=foldO_le s
 have htc:(toks (foldO s)).length≤1+(foldO s).length:=toks_count (foldO s) []
 have htl:=tok_len s
 refine .det (De Tryz.func154 [] [] ?_)
 repeat' first|(refine S0 ?_;conv=>whnf)|exact T0|(refine Met.by (rcheck_ct r hr) ?_;rintro q outs ⟨rfl,rfl⟩)|(refine Br.d (fun h=>?_) fun h=>?_)|(refine Br.bnot ?_)|(refine T2 ?_ ?_)|(refine K0 ?_)|(refine Met.by (g:=196) (rfold_ct _ (by first | omega | decide | (simp;done) | (simp;omega))) ?_;rintro q outs ⟨rfl,rfl⟩)|(refine Met.by (g:=197) (rtokens_ct _ (by first | omega | decide | (simp;done) | (simp;omega))) ?_;rintro q outs ⟨rfl,rfl⟩)
 ·obtain ⟨hb1,hb2⟩:=norm_bd ‹checkE r=0› hs
  have hL:normL r s=keepL r (toks (foldO s)):=rfl
  generalize hT:toks (foldO s)=T at *
  refine CodeOK.loopW hΓ hm [] [] (by kernel_rfl) (α:=Nat) (fun i=>[(2,.loc 0 0),(9,.own 1),(10,.own 2),(11,i64 i)]) (fun i=>[(0,.var [strs r.t,prs r.n,prs r.s]),(1,.arr 9 1 T.length fun i=>[.str (T.getD i [])]),(2,.arr 9 1 (keepL r (T.take i)).length fun j=>[.str ((keepL r (T.take i)).getD j [])])]) 3 (fun i=>i≤T.length) (fun i=>T.length - i) ?_ ?_
  ·refine Again.by 0 (Nat.zero_le _) ?_
   repeat' first|(refine S0 ?_;conv=>whnf)|(refine Vo ?_)|exact T0|(rfl)|(refine Vm ?_ ?_)
  ·intro i hi
   have hx:=fun h:(i:Int)<T.length=>htl (T.getD (i:Int).toNat []) (getD_in (by omega))
   have hkl:=keepL_len r (T.take i)
   rw [List.length_take] at hkl
   have hst:=fun h:(i:Int)<T.length=>keepL_step r T i (by omega)
   have hend:¬(i:Int)<T.length→keepL r (T.take i)=normL r s:=fun h=>by rw [hL,List.take_of_length_le (by omega)]
   repeat' first|(refine S0 ?_;conv=>whnf)|(refine Vo ?_)|(refine Vb ?_)|(refine W6 ?_)|(refine Met.by (rlettersS_ct _ (by have:=hx ‹_›;omega)) ?_;rintro q outs ⟨rfl,rfl⟩)|(refine Met.by (rdropped_ct r _ hr) ?_;rintro q outs ⟨rfl,rfl⟩)|(refine Met.by (rcanon_ct r _ hr) ?_;rintro q outs ⟨rfl,rfl⟩)|(refine Br.d (fun h=>?_) fun h=>?_)|(refine Br.swap ?_)|(refine Bm (fun h=>?_) fun h=>?_)|(refine K0 ?_)
   all_goals try simp only [Int.toNat_natCast] at *
   ·refine Again.by (i+1) ⟨by omega,by omega⟩ ?_
    rw [hst ‹_›,keepL_one,if_pos ‹_›,List.append_nil]
    repeat' first|(refine S0 ?_;conv=>whnf)|(refine Vo ?_)|exact T0
   ·refine Again.by (i+1) ⟨by omega,by omega⟩ ?_
    rw [hst ‹_›,keepL_one,if_neg ‹_›,if_pos ‹_›,List.append_nil]
    repeat' first|(refine S0 ?_;conv=>whnf)|(refine Vo ?_)|exact T0
   ·refine Again.by (i+1) ⟨by omega,by omega⟩ ?_
    rw [hst ‹_›,keepL_one,if_neg ‹_›,if_neg (by rw [‹hasS _ _=false›];simp)]
    repeat' first|(refine S0 ?_;conv=>whnf)|(refine Vo ?_)|exact T0|(exact str_app _ _ rfl)|(refine Vm ?_ ?_)
   ·rw [hend ‹_›]
    repeat' first|(refine S0 ?_;conv=>whnf)|exact T0|exact noSh_str _|(refine Met.by (rjoin_ct (normL r s) (by omega) (by omega)) ?_;rintro q outs ⟨rfl,rfl⟩)|(refine Br.d (fun h=>?_) fun h=>?_)|(refine Br.swap ?_)|(refine T2 ?_ ?_)|(refine Vm ?_ ?_)
    all_goals first
     | exact (normE_big ‹checkE r=0› ‹foldE s=0› (by omega)).1
     | exact (normE_big ‹checkE r=0› ‹foldE s=0› (by omega)).2
     | exact (normE_ok ‹checkE r=0› ‹foldE s=0› (by omega) (by omega)).1
     | exact (normE_ok ‹checkE r=0› ‹foldE s=0› (by omega) (by omega)).2
 all_goals first
  | exact (normE_c ‹¬checkE r=0›).1
  | exact (normE_c ‹¬checkE r=0›).2
  | exact (normE_f ‹checkE r=0› ‹¬foldE s=0›).1
  | exact (normE_f ‹checkE r=0› ‹¬foldE s=0›).2
def normB (r:Ru) (s:Str):Bool:=decide (normE r s=0) && decide (normO r s=s)
theorem normal_ct (r:Ru) (s:Str) (hr:Ru.ok r) (hs:s.length≤10000):Ct Tryz.prog 163 [ruD r,.str s] fun q outs=>q = .bool (normB r s)∧outs = []:=by
 refine .det (De Tryz.func163 [] [] ?_)
 repeat' first|(refine S0 ?_;conv=>whnf)|exact T0|(refine Br.d (fun h=>?_) fun h=>?_)|(refine T2 ?_ ?_)|(refine K0 ?_)|(refine Met.by (g:=162) (norm_ct _ _ (by assumption) (by first | omega | decide | (simp;done) | (simp;omega))) ?_;rintro q outs ⟨rfl,rfl⟩)
 ·rw [normB,decide_eq_true ‹normE r s=0›,Bool.true_and]
 ·rw [normB,decide_eq_false ‹¬normE r s=0›,Bool.false_and]
end Kx
open Go Sx Go.Proofs
namespace Kx
def rT:List Str:=[[100,114],[118,97,110]]
def rN:List Pr:=[([97,110,110,97],[97,110,110]),([98,111,98],[114,111,98,101,114,116])]
def rS:List Pr:=[([114,100],[114,111,97,100]),([115,116],[115,116,114,101,101,116])]
structure RuD (r:Ru):Prop where
 t:r.t = []∨r.t=rT
 n:r.n = []∨r.n=rN
 s:r.s = []∨r.s=rS
theorem RuD.ok {r:Ru} (h:RuD r):Ru.ok r:=by
 obtain ⟨h1,h2,h3⟩:=h
 exact ⟨by rcases h1 with e | e<;>rw [e]<;>decide,by rcases h2 with e | e<;>rw [e]<;>decide,by rcases h3 with e | e<;>rw [e]<;>decide⟩
theorem RuD.two {r:Ru} (h:RuD r):r.t.length≤2∧r.n.length≤2∧r.s.length≤2:=by
 obtain ⟨h1,h2,h3⟩:=h
 exact ⟨by rcases h1 with e | e<;>rw [e]<;>decide,by rcases h2 with e | e<;>rw [e]<;>decide,by rcases h3 with e | e<;>rw [e]<;>decide⟩
theorem selC_pr (l:List Pr):∀ i,i<l.length→selC (l.map fun p=>[D.str p.1,D.str p.2]) i = [.str (pGet l i).1,.str (pGet l i).2]:=selC_get (fun p:Pr=>[D.str p.1,D.str p.2]) ([],[]) (fun _ _=>rfl) l
theorem rules_ct (d:Dk):Ct Tryz.prog 24 [d.b] fun q outs=>∃ r d',RuD r∧q=ruD r∧outs = [Dk.b d']:=by
 refine .some2 (De Tryz.func24 [] [] ?_)
 repeat' first|(refine S0 ?_;conv=>whnf)|(refine Bm (fun h=>?_) fun h=>?_)|(refine CallOK.io1 (g:=25) (Step.out ?_))|(refine Met.by (g:=25) (one_ct _ _) ?_;rintro q outs ⟨x,d,hx,rfl,rfl⟩)
 ·refine Lf2.by ⟨rT,rN,rS⟩ d ⟨.inr rfl,.inr rfl,.inr rfl⟩ ?_
  repeat' first|(exact ⟨rfl,selC_str rT⟩)|(exact ⟨rfl,selC_pr rN⟩)|(exact ⟨rfl,selC_pr rS⟩)|(refine S0 ?_;conv=>whnf)|exact T0|exact T1|(refine T2 ?_ ?_)
 ·refine Lf2.by ⟨rT,rN,[]⟩ d ⟨.inr rfl,.inr rfl,.inl rfl⟩ ?_
  repeat' first|(exact ⟨rfl,selC_str rT⟩)|(exact ⟨rfl,selC_pr rN⟩)|(refine S0 ?_;conv=>whnf)|exact T0|exact T1|(refine T2 ?_ ?_)
 ·refine Lf2.by ⟨rT,[],rS⟩ d ⟨.inr rfl,.inl rfl,.inr rfl⟩ ?_
  repeat' first|(exact ⟨rfl,selC_str rT⟩)|(exact ⟨rfl,selC_pr rS⟩)|(refine S0 ?_;conv=>whnf)|exact T0|exact T1|(refine T2 ?_ ?_)
 ·refine Lf2.by ⟨rT,[],[]⟩ d ⟨.inr rfl,.inl rfl,.inl rfl⟩ ?_
  repeat' first|(exact ⟨rfl,selC_str rT⟩)|(refine S0 ?_;conv=>whnf)|exact T0|exact T1|(refine T2 ?_ ?_)
 ·refine Lf2.by ⟨[],rN,rS⟩ d ⟨.inl rfl,.inr rfl,.inr rfl⟩ ?_
  repeat' first|(exact ⟨rfl,selC_pr rN⟩)|(exact ⟨rfl,selC_pr rS⟩)|(refine S0 ?_;conv=>whnf)|exact T0|exact T1|(refine T2 ?_ ?_)
 ·refine Lf2.by ⟨[],rN,[]⟩ d ⟨.inl rfl,.inr rfl,.inl rfl⟩ ?_
  repeat' first|(exact ⟨rfl,selC_pr rN⟩)|(refine S0 ?_;conv=>whnf)|exact T0|exact T1|(refine T2 ?_ ?_)
 ·refine Lf2.by ⟨[],[],rS⟩ d ⟨.inl rfl,.inl rfl,.inr rfl⟩ ?_
  repeat' first|(exact ⟨rfl,selC_pr rS⟩)|(refine S0 ?_;conv=>whnf)|exact T0|exact T1|(refine T2 ?_ ?_)
 ·refine Lf2.by ⟨[],[],[]⟩ d ⟨.inl rfl,.inl rfl,.inl rfl⟩ ?_
  repeat' first|(refine S0 ?_;conv=>whnf)|exact T0|exact T1|(refine T2 ?_ ?_)
end Kx
