/-
  Texts: letters, tokens, lengths.
  No condition beyond those written in each theorem.
-/
import Derived.Test.YtfinddimpfiohaaGreatDoorKA1
import Derived.Test.YtfinddimpfiohaaGreatDoorFD
import Derived.Test.YtfinddimpfiohaaGreatDoorKA2
set_option linter.unusedSimpArgs false
set_option linter.unusedVariables false
set_option maxRecDepth 4000
open Go Sx Go.Proofs
namespace Kx
def isLet (x:UInt8):Bool:=decide (97<=(x.toNat:Int)) && decide ((x.toNat:Int)<=122)
def letters (s:Str):Str:=s.filter isLet
theorem take_one (s:Str) (i:Nat) (h:i<s.length):s.take (i+1)=s.take i ++ [s.getD i 0]:=by
 rw [List.take_add_one,List.getElem?_eq_getElem h,gDe,List.getElem?_eq_getElem h];rfl
theorem cut_one (s:Str) (i:Nat) (h:i<s.length):(s.take (i+1)).drop i = [s.getD i 0]:=by
 rw [take_one s i h,List.drop_append_of_le_length (by simp;omega),ddl (by simp;omega)];rfl
theorem letters_one (s:Str) (i:Nat) (h:i<s.length):letters (s.take (i+1))=letters (s.take i) ++ if isLet (s.getD i 0) then [s.getD i 0] else []:=by
 rw [take_one s i h];simp only [letters,List.filter_append,List.filter_cons,List.filter_nil]
theorem letters_len (s:Str):(letters s).length<=s.length:=List.length_filter_le _ _
theorem letters_len' (s:Str) (i:Nat):(letters (s.take i)).length<=i:=Nat.le_trans (letters_len _) (by rw [List.length_take];omega)
theorem isLet_T {x:UInt8} (h1:97<=(x.toNat:Int)) (h2:(x.toNat:Int)<=122):isLet x=true:=by simp only [isLet,h1,h2,decide_true,Bool.and_self]
theorem isLet_F1 {x:UInt8} (h1:¬97<=(x.toNat:Int)):isLet x=false:=by simp only [isLet,h1,decide_false,Bool.false_and]
theorem isLet_F2 {x:UInt8} (h1:¬(x.toNat:Int)<=122):isLet x=false:=by simp only [isLet,h1,decide_false,Bool.and_false]
theorem rletters_ct (s:Str) (hs:s.length<=1000000000000000):Cr 314 [.str s] (.str (letters s)):=by
 refine .det (De Tryz.func314 [] [] ?_)
 repeat' first|refine S0 ?_;conv=>whnf
 refine Lw [] [] (α:=Nat) (fun i=>[(0,.str s),(3,.str (letters (s.take i))),(4,i64 i)]) (fun i=>[]) 0 (fun i=>i<=s.length) (fun i=>s.length - i) ?_ ?_
 ·refine Again.by 0 (zle _) ?_
  repeat' first|refine S0 ?_;conv=>whnf|refine Vo ?_|exact T0|(rfl)|refine Vm ?_ ?_
 ·intro i hi;have hl:=letters_len' s i
  repeat' first|refine S0 ?_;conv=>whnf|refine Vo ?_|exact T0|refine W6 ?_|(refine Vc.om ?_ ?_;focus (simp;omega;done))|(refine Br.d (fun h=>?_) fun h=>?_)|refine T2 ?_ ?_
  all_goals try simp only [tnc] at *
  ·refine Again.by (i+1) ⟨by omega,by omega⟩ ?_
   repeat' first|refine S0 ?_;conv=>whnf|refine Vo ?_|exact T0|(rw [letters_one s i (by omega),isLet_T ‹_› ‹_›,if_pos rfl];exact congrArg _ (cut_one s i (by omega)))|refine Vm ?_ ?_
  ·refine Again.by (i+1) ⟨by omega,by omega⟩ ?_
   repeat' first|refine S0 ?_;conv=>whnf|refine Vo ?_|refine Vb ?_|exact T0|(rw [letters_one s i (by omega),isLet_F2 ‹_›];simp)
  ·refine Again.by (i+1) ⟨by omega,by omega⟩ ?_
   repeat' first|refine S0 ?_;conv=>whnf|refine Vo ?_|refine Vb ?_|exact T0|(rw [letters_one s i (by omega),isLet_F1 ‹_›];simp)
  ·rw [show i=s.length by omega,List.take_length]
theorem letter_ct (x:UInt8):Cr 143 [u8 x.toNat] (.bool (isLet x)):=by
 refine .det (De Tryz.func143 [] [] ?_)
 repeat' first|refine S0 ?_;conv=>whnf|exact T0|(refine Br.d (fun h=>?_) fun h=>?_)|refine T2 ?_ ?_
 all_goals first
  | trivial
  | exact hb h
  | with_reducible rfl
  | with_reducible exact same_rfl
  | omega
  | ((simp [isLet, *];done))
theorem letters_ct (s:Str) (hs:s.length<=1000000000000):Cr 89 [.str s] (.str (letters s)):=by
 refine .det (De Tryz.func89 [] [] ?_)
 repeat' first|refine S0 ?_;conv=>whnf
 refine Lw [] [] (α:=Nat) (fun i=>[(0,.str s),(6,i64 s.length),(3,.own 0),(7,i64 i)]) (fun i=>[(0,.arr 5 1 (letters (s.take i)).length (bytesF (letters (s.take i))))]) 1 (fun i=>i<=s.length) (fun i=>s.length - i) ?_ ?_
 ·refine Again.by 0 (zle _) ?_
  repeat' first|refine S0 ?_;conv=>whnf|refine Vo ?_|exact T0|(rfl)|refine Vm ?_ ?_
 ·intro i hi;have hl:=letters_len' s i
  repeat' first|refine S0 ?_;conv=>whnf|refine Vo ?_|refine Vb ?_|refine W6 ?_|(refine Br.d (fun h=>?_) fun h=>?_)|(refine Bm (fun h=>?_) fun h=>?_)|refine K0 ?_|(refine M0 (g:=143) (letter_ct _) ?_)
  all_goals try simp only [tnc] at *
  ·refine Again.by (i+1) ⟨by omega,by omega⟩ ?_
   rw [letters_one s i (by omega),h,if_pos rfl]
   repeat' first|refine S0 ?_;conv=>whnf|refine Vo ?_|exact T0|(exact byte_app _ _ rfl)|refine Vm ?_ ?_
  ·refine Again.by (i+1) ⟨by omega,by omega⟩ ?_
   rw [letters_one s i (by omega),h,if_neg (by simp),List.append_nil]
   repeat' first|refine S0 ?_;conv=>whnf|refine Vo ?_|exact T0
  ·refine Lf.by _ ⟨rfl,fun _ _=>rfl⟩ ?_
   repeat' first|refine S0 ?_;conv=>whnf|exact T0|(rw [show i=s.length by omega,List.take_length])|refine T2 ?_ ?_
theorem toksF_space (part l:Str):toksF part (32 :: l)=(if part = [] then [] else [part]) ++ toks l:=by
 rw [toksF,if_pos rfl];split<;>rfl
theorem toksF_other (part:Str) (x:UInt8) (l:Str) (h:x≠32):toksF part (x :: l)=toksF (part ++ [x]) l:=by
 rw [toksF,if_neg h]
theorem byte_eq {x y:UInt8} (h:(x.toNat:Int)=(y.toNat:Int)):x=y:=UInt8.toNat_inj.1 (by omega)
theorem rtokens_ct (s:Str) (hs:s.length<=1000000000000):Cr 322 [.str s] (strsO 9 (toks s)):=by
 refine .det (De Tryz.func322 [] [] ?_)
 repeat' first|refine S0 ?_;conv=>whnf
 refine Lw [] [] (α:=Nat × Str × List Str) (fun z=>[(0,.str s),(3,.own 0),(4,.str z.2.1),(5,i64 z.1)]) (fun z=>[(0,.arr 9 1 z.2.2.length fun i=>[.str (z.2.2.getD i [])])]) 1 (fun z=>z.1<=s.length+1/\z.2.1.length+z.2.2.length<=z.1/\toks s=z.2.2 ++ (if z.1<=s.length then toksF z.2.1 (s.drop z.1) else [])) (fun z=>s.length+1 - z.1) ?_ ?_
 ·refine Again.by (0,[],[]) ⟨zle _,Nat.le_refl _,by simp [toks]⟩ ?_
  repeat' first|refine S0 ?_;conv=>whnf|refine Vo ?_|exact T0|refine Vm ?_ ?_
 ·intro ⟨i,part,out⟩ ⟨h1,h2,h3⟩;dsimp only at h1 h2 h3 ⊢;have hcut:i<s.length->List.drop i (List.take ((i:Int)+1).toNat s) = [s.getD i 0]:=cut_step s 0 i;have hdr:=drop_step s 0 i
  repeat' first|refine S0 ?_;conv=>whnf|refine Vo ?_|refine Vb ?_|exact T0|refine W6 ?_|(refine Vc.om ?_ ?_;focus (simp;omega;done))|(refine Br.d (fun h=>?_) fun h=>?_)|refine Br.bnot ?_|refine T2 ?_ ?_
  all_goals try simp only [tnc] at *
  ·have hx:s.getD i 0=32:=byte_eq ‹_›
   refine Again.by (i+1,[],out) ⟨⟨by dsimp only;omega,by dsimp only [List.length_nil];omega,?_⟩,by dsimp only;omega⟩ ?_
   ·dsimp only;rw [h3,if_pos (by omega),if_pos (by omega),hdr (by omega),hx,toksF_space,if_pos ‹_›];rfl
   ·dsimp only
    repeat' first|refine S0 ?_;conv=>whnf|refine Vo ?_|exact T0
  ·have hx:s.getD i 0=32:=byte_eq ‹_›;have:1<=part.length:=List.length_pos_iff.2 ‹_›
   refine Again.by (i+1,[],out ++ [part]) ⟨⟨by dsimp only;omega,by simp;omega,?_⟩,by dsimp only;omega⟩ ?_
   ·dsimp only;rw [h3,if_pos (by omega),if_pos (by omega),hdr (by omega),hx,toksF_space,if_neg ‹_›,List.append_assoc];rfl
   ·dsimp only
    repeat' first|refine S0 ?_;conv=>whnf|refine Vo ?_|exact T0|(exact str_app _ _ rfl)|refine Vm ?_ ?_
  ·have hx:s.getD i 0≠32:=fun e=>by rw [e] at h;exact h rfl
   refine Again.by (i+1,part ++ [s.getD i 0],out) ⟨⟨by dsimp only;omega,by simp;omega,?_⟩,by dsimp only;omega⟩ ?_
   ·dsimp only;rw [h3,if_pos (by omega),if_pos (by omega),hdr (by omega),toksF_other _ _ _ hx]
   ·dsimp only;rw [hcut (by omega)]
    repeat' first|refine S0 ?_;conv=>whnf|refine Vo ?_|exact T0
  ·have hi:i=s.length:=by omega
   refine Again.by (i+1,[],out) ⟨⟨by dsimp only;omega,by dsimp only [List.length_nil];omega,?_⟩,by dsimp only;omega⟩ ?_
   ·dsimp only;rw [h3,if_pos (by omega),if_neg (by omega),hi,List.drop_length,toksF,if_pos ‹_›]
   ·dsimp only
    repeat' first|refine S0 ?_;conv=>whnf|refine Vo ?_|exact T0
  ·have hi:i=s.length:=by omega
   have:1<=part.length:=List.length_pos_iff.2 ‹_›
   refine Again.by (i+1,[],out ++ [part]) ⟨⟨by dsimp only;omega,by simp;omega,?_⟩,by dsimp only;omega⟩ ?_
   ·dsimp only;rw [h3,if_pos (by omega),if_neg (by omega),hi,List.drop_length,toksF,if_neg ‹_›];simp
   ·dsimp only
    repeat' first|refine S0 ?_;conv=>whnf|refine Vo ?_|exact T0|(exact str_app _ _ rfl)|refine Vm ?_ ?_
  ·rw [h3,if_neg (by omega),List.append_nil];exact ⟨rfl,fun _ _=>rfl⟩
theorem space_ct (x:Nat) (h:x<=1114111):Cr 305 [.int .i32 x] (.bool (decide (x=32))):=by
 refine .det (De Tryz.func305 [] [] ?_)
 repeat' first|refine S0 ?_;conv=>whnf|exact T0|refine T2 ?_ ?_
 all_goals first
  | trivial
  | exact hb h
  | with_reducible rfl
  | with_reducible exact same_rfl
  | omega
  | ((simp;omega))
theorem ffunc_ct (s:Str) (hs:s.length<=1000000000):Cr 304 [.str s,.fn 305 []] (strsO 9 (toks s)) :=
 fields_ct ⟨Tryz.f304,Tryz.func304,by decide,by decide⟩ s space_ct (fun p s w h1 h2 h3=>Kx.strings_FieldsFunc_grows 305 #[] h1 p s w h2 h3) (by omega)
theorem tokens_ct (s:Str) (hs:s.length<=1000000000):Cr 260 [.str s] (strsO 9 (toks s)):=by
 refine .det (De Tryz.func260 [] [] ?_)
 repeat' first|refine S0 ?_;conv=>whnf|exact T0|exact T1|(refine M0 (ffunc_ct s (by omega)) ?_)|refine T2 ?_ ?_|refine K0 ?_
end Kx
open Go Sx Go.Proofs
namespace Kx
theorem one_ct (d:Dk) (n:Int):Ct Tryz.prog 8 [d.b,i64 n] fun r outs=>∃ x d',True/\r = .bool x/\outs = [Dk.b d']:=by
 refine .some2 (De Tryz.func8 [] [] ?_)
 repeat' first|refine S0 ?_;conv=>whnf|(refine CallOK.io1 (g:=9) (Step.out ?_))|(refine Met.by (g:=9) (next_ct _ _) ?_;rintro q outs ⟨x,d,hx,rfl,rfl⟩)
 refine Lf2.by (decide (x=0)) d trivial ?_
 repeat' first|refine S0 ?_;conv=>whnf|exact T0|exact T1|refine T2 ?_ ?_
theorem pick_ct (d:Dk) (l:List Str) (h1:1<=l.length) (h2:l.length<=1000):Ct Tryz.prog 161 [d.b,strs l] fun r outs=>∃ x d',x ∈ l/\r = .str x/\outs = [Dk.b d']:=by
 refine .some2 (De Tryz.func161 [] [] ?_)
 repeat' first|refine S0 ?_;conv=>whnf|refine Vo ?_|(refine CallOK.io1 (g:=9) (Step.out ?_))|(refine Met.by (g:=9) (next_ct _ _) ?_;rintro q outs ⟨x,d,hx,rfl,rfl⟩)
 refine Lf2.by (l.getD x.toNat []) d (getD_in (by omega)) ?_
 repeat' first|refine S0 ?_;conv=>whnf|exact T0|exact T1|refine T2 ?_ ?_
theorem dk_wk (d:Dk):ioEq [d.b] [d.b]=true/\wkD d.b d.b false:=⟨rfl,⟨⟨rfl,fun _ _=>rfl⟩,rfl,rfl,trivial⟩⟩
theorem picks_ct (d:Dk) (l:List Str) (h1:1<=l.length) (h2:l.length<=1000):Ct Tryz.prog 161 [d.b,.tab 1 l.length fun i=>selC (l.map fun s=>[D.str s]) i] fun r outs=>∃ x d',x ∈ l/\r = .str x/\outs = [Dk.b d'] :=
 .lit2 l (dk_wk d) (pick_ct d l h1 h2)
theorem picksP_ct (φ:Str->Prop) (d:Dk) (l:List Str) (h:∀ x ∈ l,φ x) (h1:1<=l.length) (h2:l.length<=1000):Ct Tryz.prog 161 [d.b,.tab 1 l.length fun i=>selC (l.map fun s=>[D.str s]) i] fun r outs=>∃ x d',φ x/\r = .str x/\outs = [Dk.b d'] :=
 (picks_ct d l h1 h2).mono fun _ _ ⟨x,d,hx,hr⟩=>⟨x,d,h x hx,hr⟩
def Tok (s:Str):Prop:=1<=s.length/\s.length<=8/\∀ x ∈ s,isLet x=true
def tokB (s:Str):Bool:=decide (1<=s.length) && decide (s.length<=8) && s.all isLet
theorem Tok.of {s:Str} (h:tokB s=true):Tok s:=by
 simp only [tokB,bat,decide_eq_true_eq,List.all_eq_true] at h;exact ⟨h.1.1,h.1.2,h.2⟩
end Kx
open Go Sx Go.Proofs
namespace Kx
theorem sjoin_ct (l:List Str) (sep:Str) (hl:l.length<=1000000000) (hj:(joinS sep l).length<=1000000000):Cr 192 [strs l,.str sep] (.str (joinS sep l)) :=
 join_ct ⟨Tryz.f192,Tryz.func192,by decide,by decide⟩ l sep (by omega) (by omega) Kx.strings_Join_none Kx.strings_Join
theorem join1_ct (l:List Str) (hl:l.length<=1000000000) (hj:(joinS [32] l).length<=1000000000):Cr 262 [strs l] (.str (joinS [32] l)):=by
 refine .det (De Tryz.func262 [] [] ?_)
 repeat' first|refine S0 ?_;conv=>whnf|exact T0|(refine M0 (sjoin_ct l [32] hl hj) ?_)|refine T2 ?_ ?_|refine K0 ?_
theorem digit_ct (x:UInt8):Cr 341 [u8 x.toNat] (.bool (isDig x)):=by
 refine .det (De Tryz.func341 [] [] ?_)
 repeat' first|refine S0 ?_;conv=>whnf|exact T0|(refine Br.d (fun h=>?_) fun h=>?_)|refine T2 ?_ ?_
 all_goals first
  | trivial
  | exact hb h
  | with_reducible rfl
  | with_reducible exact same_rfl
  | omega
  | ((simp [isDig, *];done))
theorem pair_ct (s:Str) (i:Nat) (hi:i<s.length) (hs:s.length<=1000000000):Cr 302 [.str s,i64 i] (.bool (pairAt s i)):=by
 refine .det (De Tryz.func302 [] [] ?_)
 repeat' first|refine S0 ?_;conv=>whnf|refine Vo ?_|exact T0|refine W6 ?_|(refine Br.d (fun h=>?_) fun h=>?_)|refine T2 ?_ ?_
 all_goals try simp only [tnc,show ((i:Int)+1).toNat=i+1 by omega] at *
 all_goals first
  | trivial
  | exact hb h
  | with_reducible rfl
  | with_reducible exact same_rfl
  | omega
  | ((simp_all [-List.getD_eq_getElem?_getD,pairAt,isPair,isSnd];done))
  | ((simp_all [-List.getD_eq_getElem?_getD,pairAt,isPair,isSnd];omega))
theorem prn_F1 {x:UInt8} (h:(x.toNat:Int)<32):isPrn x=false:=by simp only [isPrn,decide_eq_false (show ¬(32:Int)<=x.toNat by omega),Bool.false_and]
theorem prn_F2 {x:UInt8} (h:(126:Int)<x.toNat):isPrn x=false:=by simp only [isPrn,decide_eq_false (show ¬(x.toNat:Int)<=126 by omega),Bool.and_false]
theorem prn_T {x:UInt8} (h1:¬(x.toNat:Int)<32) (h2:¬(126:Int)<x.toNat):isPrn x=true:=by simp only [isPrn,decide_eq_true (show (32:Int)<=x.toNat by omega),decide_eq_true (show (x.toNat:Int)<=126 by omega),Bool.and_self]
theorem pairAt_lt {s:Str} {i:Nat} (h:pairAt s i=true):i+1<s.length:=by
 simp only [pairAt,bat,decide_eq_true_eq] at h;exact h.1
theorem valid_ct (s:Str) (hs:s.length<=1000000000):Cr 300 [.str s] (.bool (validS s)):=by
 refine .det (De Tryz.func300 [] [] ?_)
 repeat' first|refine S0 ?_;conv=>whnf
 refine Lw [] [] (α:=Nat) (fun i=>[(0,.str s),(3,i64 i)]) (fun i=>[]) 0 (fun i=>i<=s.length/\validL s=validL (s.drop i)) (fun i=>s.length - i) ?_ ?_
 ·refine Again.by 0 ⟨zle _,rfl⟩ ?_
  repeat' first|refine S0 ?_;conv=>whnf|refine Vo ?_|exact T0
 ·intro i ⟨hi,hv⟩
  repeat' first|refine S0 ?_;conv=>whnf|refine Vo ?_|exact T0|refine W6 ?_|(refine Br.d (fun h=>?_) fun h=>?_)|refine Br.swap ?_|(refine Bm (fun h=>?_) fun h=>?_)|refine T2 ?_ ?_|refine K0 ?_|(refine M0 (g:=302) (pair_ct _ _ (by omega) (by omega)) ?_)
  all_goals try simp only [tnc] at *
  ·have:=pairAt_lt ‹_›
   refine Again.by (i+2) ⟨⟨by omega,by rw [hv,validL_pair ‹_›]⟩,by omega⟩ ?_
   repeat' first|refine S0 ?_;conv=>whnf|refine Vo ?_|exact T0
  ·rw [validS,hv,validL_one (by omega) ‹_›,prn_F1 ‹_›];rfl
  ·rw [validS,hv,validL_one (by omega) ‹_›,prn_F2 ‹_›];rfl
  ·refine Again.by (i+1) ⟨⟨by omega,by rw [hv,validL_one (by omega) ‹_›,prn_T ‹_› ‹_›,Bool.true_and]⟩,by omega⟩ ?_
   repeat' first|refine S0 ?_;conv=>whnf|refine Vo ?_|exact T0
  ·rw [validS,hv,ddl (by omega),validL,Bool.true_and,decide_eq_decide];omega
def replD (i:Nat):D:=.str (replL.getD i [])
theorem nthA_str:∀ (ps:List (Nat × D)) (l:List Str),ps.map (·.2)=l.map .str->∀ i,i<l.length->nthA ps i = .str (l.getD i [])
 | [],[],_,_,h=>by simp at h
 | (k,d) :: ps,x :: l,h,0,_=>by simp at h;simp [nthA,h.1]
 | (k,d) :: ps,x :: l,h,i+1,hi=>by simp at h;simpa [nthA] using nthA_str ps l (by simpa using h.2) i (by simpa using hi)
 | [],_ :: _,h,_,_=>by simp at h
 | _ :: _,[],h,_,_=>by simp at h
set_option maxRecDepth 4000 in
theorem repls_ct:Cr 301 [] (.vec 64 replD):=by
 refine .det (De Tryz.func301 [] [] ?_)
 repeat' first|(exact fun i hi=>nthA_str _ replL rfl i (by simpa [replL] using hi))|refine S0 ?_;conv=>whnf|exact T0|refine T2 ?_ ?_|refine Vm ?_ ?_
theorem utf8_low (x:UInt8) (h1:65<=(x.toNat:Int)) (h2:(x.toNat:Int)<=90):utf8 ((x.toNat:Int) - 65+97)=plainS x:=by
 have:=all_u8 (p:=fun x=>!(decide (65<=(x.toNat:Int)) && decide ((x.toNat:Int)<=90)) || (utf8 ((x.toNat:Int) - 65+97) == plainS x)) (by decide +kernel) x;simpa [h1,h2] using this
theorem pl_let (x:UInt8) (h:isLet x=true):utf8 (x.toNat:Int)=plainS x:=by
 have:=all_u8 (p:=fun x=>!(isLet x) || (utf8 (x.toNat:Int) == plainS x)) (by decide +kernel) x;simpa [h] using this
theorem pl_dig (x:UInt8) (h:isDig x=true):utf8 (x.toNat:Int)=plainS x:=by
 have:=all_u8 (p:=fun x=>!(isDig x) || (utf8 (x.toNat:Int) == plainS x)) (by decide +kernel) x;simpa [h] using this
theorem pl_ap (x:UInt8) (h:(x.toNat:Int)=39):({ data:=#[] }:ByteArray).data.toList=plainS x:=by
 have:=all_u8 (p:=fun x=>!(decide ((x.toNat:Int)=39)) || (([]:Str) == plainS x)) (by decide +kernel) x;simpa [h] using this
theorem pl_sp (x:UInt8) (h1:¬(65<=(x.toNat:Int)/\(x.toNat:Int)<=90)) (h2:isLet x=false) (h3:isDig x=false) (h4:¬(x.toNat:Int)=39):({ data:=#[32] }:ByteArray).data.toList=plainS x:=by
 have:=all_u8 (p:=fun x=>(decide (65<=(x.toNat:Int)) && decide ((x.toNat:Int)<=90)) || isLet x || isDig x || decide ((x.toNat:Int)=39) || (([32]:Str) == plainS x)) (by decide +kernel) x
 have h5:(decide (65<=(x.toNat:Int)) && decide ((x.toNat:Int)<=90))=false:=by simpa using fun a=>by omega
 simp only [h5,h2,h3,decide_eq_false h4,Bool.false_or] at this;simpa using this
theorem plain_ct (x:UInt8):Cr 303 [u8 x.toNat] (.str (plainS x)):=by
 have hx:x.toNat<256:=UInt8.toNat_lt x;refine .det (De Tryz.func303 [] [] ?_)
 repeat' first|refine S0 ?_;conv=>whnf|exact T0|refine W8 ?_|refine W3 ?_|refine B0 ?_|(refine Br.d (fun h=>?_) fun h=>?_)|refine Br.swap ?_|(refine Bm (fun h=>?_) fun h=>?_)|refine T2 ?_ ?_|refine K0 ?_|(refine M0 (g:=143) (letter_ct _) ?_)|(refine M0 (g:=341) (digit_ct _) ?_)
 ·exact utf8_low x ‹_› ‹_›
 ·exact pl_let x ‹_›
 ·exact pl_dig x ‹_›
 ·exact pl_sp x (by omega) ‹_› ‹_› (by omega)
 ·exact pl_let x ‹_›
 ·exact pl_dig x ‹_›
 ·exact pl_ap x ‹_›
 ·exact pl_sp x (by omega) ‹_› ‹_› ‹_›
end Kx
open Go Sx Go.Proofs
namespace Kx
theorem cc_fn:FnOK Tryz.prog 191:=⟨Tryz.f191,Tryz.func191,by decide,by decide⟩
theorem cc_used (b:Nat) (w:World) (h:w.cell? ⟨b,0,none⟩=some (.pointer (some ⟨b,0,none⟩))):Calls Tryz.prog 191 #[.pointer (some ⟨b,0,none⟩)] w fun e w'=>e = .returned (.tuple #[])/\w' = w :=
 Any.Builder_copyCheck_used ({ Kx.lays156 with }) Kx.Builder_Extra_156.toX72 b w h
theorem cc_fresh (b:Nat) (w:World) (h:w.cell? ⟨b,0,none⟩=some (.pointer none)) (h2:w.shape? b=some (239,2)) (h3:w.frozen? ⟨b,0,none⟩=false):Calls Tryz.prog 191 #[.pointer (some ⟨b,0,none⟩)] w fun e w'=>e = .returned (.tuple #[])/\w' = w.setCell ⟨b,0,none⟩ (.pointer (some ⟨b,0,none⟩)) :=
 Any.Builder_copyCheck_fresh ({ Kx.lays156 with }) Kx.Builder_Extra_156.toX72 b w h h2 h3
theorem plain_len (x:UInt8):(plainS x).length<=2:=by
 have:=all_u8 (p:=fun x=>decide ((plainS x).length<=2)) (by decide +kernel) x;simpa using this
theorem pairAt_snd {s:Str} {i:Nat} (h:pairAt s i=true):i+1<s.length/\128<=(s.getD ((i:Int)+1).toNat 0).toNat/\(s.getD ((i:Int)+1).toNat 0).toNat<=191:=by
 simp only [pairAt,isPair,isSnd,bat,decide_eq_true_eq] at h;rw [show ((i:Int)+1).toNat=i+1 by omega];omega
theorem repl_at (y:UInt8):replL.getD (0+((y.toNat:Int) - 128).toNat*(Γ.get 9).size) []=repl y:=by
 have:0+((y.toNat:Int) - 128).toNat*(Γ.get 9).size=y.toNat - 128:=by
  show 0+((y.toNat:Int) - 128).toNat*1=_
  omega
 exact congrArg (fun k=>replL.getD k []) this
theorem repl_app (o:Str) {t u:Str} (h:t=u):o.length+t.length=(o ++ u).length/\∀ i,i<(o ++ u).length->iteL (i<o.length) (bytesF o i) (bytesF t (i - o.length))=bytesF (o ++ u) i:=by
 subst h;exact bytes_app _ _
theorem fold_ct (s:Str) (hs:s.length<=100000):Cr 259 [.str s] (.tup [.str (foldO s),i64 (foldE s)]):=by
 have hr:=rawL_len s;have hfl:=foldS_len s;have htc:=toks_count (rawL s) [];refine .det (De Tryz.func259 [] [] ?_)
 repeat' first|refine S0 ?_;conv=>whnf|exact T0|refine Br.bnot ?_|(refine Bm (fun h=>?_) fun h=>?_)|refine T2 ?_ ?_|refine K0 ?_|(refine M0 (g:=300) (valid_ct _ (by first | omega | decide | (simp;done) | (simp;omega))) ?_)|(refine M0 (g:=301) (repls_ct) ?_)
 ·refine Lw [] [] (α:=Nat × Str × Bool) (fun z=>[(0,.str s),(4,.loc 0 0),(5,.loc 1 0),(6,i64 z.1)]) (fun z=>[(0,.vec 64 replD),(1,.bld 239 z.2.2 (.own 2)),(2,.arr 5 1 z.2.1.length (bytesF z.2.1))]) 3 (fun z=>z.1<=s.length/\rawL s=z.2.1 ++ rawL (s.drop z.1)) (fun z=>s.length - z.1) ?_ ?_
  ·refine Again.by (0,[],false) ⟨zle _,rfl⟩ ?_
   repeat' first|(exact fun _ _=>⟨rfl,rfl⟩)|refine S0 ?_;conv=>whnf|refine Vo ?_|exact T0|refine Vm ?_ ?_
  ·intro ⟨i,o,u⟩ ⟨h1,h2⟩;dsimp only at h1 h2 ⊢
   have ho:o.length<=200000:=by have:=congrArg List.length h2;simp only [lap] at this;omega
   have hp:pairAt s i=true->i+1<s.length/\128<=(s.getD ((i:Int)+1).toNat 0).toNat/\(s.getD ((i:Int)+1).toNat 0).toNat<=191:=fun h=>pairAt_snd h
   have hA:(toks o).length<=1+o.length:=toks_count o []
   have hB:(joinS [32] (toks o)).length<=o.length:=by
    have:=(join_toksF o [] []).2 rfl;unfold toks;simp at this;omega
   have hF:¬(i:Int)<s.length->joinS [32] (toks o)=foldS s:=fun h=>by
    have:rawL s=o:=by rw [h2,ddl (by omega)];simp [rawL]
    unfold foldS;rw [this]
   have hN:¬1<=o.length->toks []=toks o:=fun h=>by rw [List.length_eq_zero_iff.1 (show o.length=0 by omega)]
   repeat' first|refine S0 ?_;conv=>whnf|refine Vo ?_|exact T0|exact noSh_str _|refine W6 ?_|refine B1 ?_|refine B0 ?_|(refine Vc.om ?_ ?_;focus ((have:=hp ‹_›;omega);done))|(refine Wr.u8 ?_ ?_;focus ((have:=hp ‹_›;omega);done))|(refine Lf.by o ⟨rfl,fun _ _=>rfl⟩ ?_)|(refine M0 (join1_ct (toks o) (by omega) (by omega)) ?_)|(refine M0 (join1_ct (toks []) (by decide) (by decide)) ?_)|(exact (hF ‹_›).trans (if_pos ‹_›).symm)|(exact (congrArg _ (hN ‹_›)).trans ((hF ‹_›).trans (if_pos ‹_›).symm))|(exact (if_pos ‹_›).symm)|(refine Br.d (fun h=>?_) fun h=>?_)|(refine Bm (fun h=>?_) fun h=>?_)|refine T2 ?_ ?_|(refine CallOK.inl (f:=130) (fn:=Tryz.f130) hΓ hm Tryz.func130 [] [] (by kernel_rfl) (fun V=>?_))|(refine CallOK.inl (f:=134) (fn:=Tryz.f134) hΓ hm Tryz.func134 ord134 [] (by kernel_rfl) (fun V=>?_))|(refine CallOK.cc (g:=191) (T:=239) cc_fn cc_used cc_fresh ?_)|refine K0 ?_|(refine M0 (g:=260) (tokens_ct _ (by first | omega | decide | (simp;done) | (simp;omega))) ?_)|(refine M0 (g:=302) (pair_ct _ _ (by omega) (by omega)) ?_)|(refine M0 (g:=303) (plain_ct _) ?_)|refine Vm ?_ ?_
   ·have:=hp ‹_›
    show 0+((s.getD ((i:Int)+1).toNat 0).toNat - (128:Int)).toNat*1<64
    omega
   ·rw [repl_at];have:=(repl_add (s.getD ((i:Int)+1).toNat 0)).2;omega
   ·have:=hp ‹_›
    refine Again.by (i+2,o ++ repl (s.getD ((i:Int)+1).toNat 0),true) ⟨⟨(hp ‹_›).1,by dsimp only;rw [h2,rawL_pair ‹_›,List.append_assoc,show ((i:Int)+1).toNat=i+1 by omega]⟩,by dsimp only;omega⟩ ?_
    repeat' first|(exact fun _ _=>⟨rfl,rfl⟩)|(exact repl_app _ (repl_at _))|refine S0 ?_;conv=>whnf|refine Vo ?_|exact T0|refine Vm ?_ ?_
   ·have:=plain_len (s.getD (i:Int).toNat 0);omega
   ·refine Again.by (i+1,o ++ plainS (s.getD (i:Int).toNat 0),true) ⟨⟨by dsimp only;omega,by dsimp only;rw [h2,rawL_one (by omega) ‹_›,List.append_assoc,tnc]⟩,by dsimp only;omega⟩ ?_
    repeat' first|(exact fun _ _=>⟨rfl,rfl⟩)|(exact bytes_app _ _)|refine S0 ?_;conv=>whnf|refine Vo ?_|exact T0|refine Vm ?_ ?_
 ·simp only [foldO,‹validS s=false›];trivial
 ·simp only [foldE,‹validS s=false›];trivial
end Kx
open Go Sx Go.Proofs
namespace Kx
theorem u8_dec {p:UInt8->Prop} [∀ x,Decidable (p x)] (h:((List.range 256).all fun n=>decide (p (UInt8.ofNat n)))=true) (x:UInt8):p x:=by
 simpa using all_u8 (p:=fun x=>decide (p x)) h x
theorem and31:∀ x:UInt8,bitI BinOp.and IntKind.u8 (x.toNat:Int) 31=x.toNat % 32:=u8_dec (by decide +kernel)
def rtab:Str:=[97,97,97,97,97,97,63,63,101,101,101,101,105,105,105,105,100,110,111,111,111,111,111,63,111,117,117,117,117,121,63,63]
theorem rr1:∀ x:UInt8,128<=x.toNat->x.toNat<=191->((x.toNat % 32=6->[97,101]=repl x)/\(x.toNat % 32=7->[99]=repl x)/\(x.toNat % 32=23->[]=repl x)/\(x.toNat % 32=30->[116,104]=repl x)/\(x.toNat=159->[115,115]=repl x)/\(x.toNat=191->[121]=repl x)):=u8_dec (by decide +kernel)
theorem rr2:∀ x:UInt8,128<=x.toNat->x.toNat<=191->x.toNat % 32≠6->x.toNat % 32≠7->x.toNat % 32≠23->x.toNat % 32≠30->x.toNat≠159->x.toNat≠191->(rtab.take (x.toNat % 32+1)).drop (x.toNat % 32)=repl x:=u8_dec (by decide +kernel)
theorem rrepl_ct (x:UInt8) (h1:128<=x.toNat) (h2:x.toNat<=191):Cr 352 [u8 x.toNat] (.str (repl x)):=by
 have hr:=rr1 x h1 h2;have h31:=and31 x;refine .det (De Tryz.func352 [] [] ?_)
 repeat' first|refine S0 ?_;conv=>whnf|exact T0|refine W8 ?_|(refine Br.d (fun h=>?_) fun h=>?_)|refine T2 ?_ ?_|refine Vm ?_ ?_
 ·exact hr.1 (by omega)
 ·exact hr.2.1 (by omega)
 ·exact hr.2.2.1 (by omega)
 ·exact hr.2.2.2.1 (by omega)
 ·exact hr.2.2.2.2.1 (by omega)
 ·exact hr.2.2.2.2.2 (by omega)
 ·rw [h31];refine ⟨by omega,by omega,?_⟩
  show (x.toNat:Int) % 32+1<=(32:Nat)
  omega
 ·rw [h31,show ((x.toNat:Int) % 32).toNat=x.toNat % 32 by omega,show ((x.toNat:Int) % 32+1).toNat=x.toNat % 32+1 by omega];exact rr2 x h1 h2 (by omega) (by omega) (by omega) (by omega) (by omega) (by omega)
theorem pairAt_T {s:Str} {i:Nat} (h0:i+1<s.length) (h1:((s.getD i 0).toNat:Int)=195) (h2:¬((s.getD ((i:Int)+1).toNat 0).toNat:Int)<128) (h3:¬(191:Int)<((s.getD ((i:Int)+1).toNat 0).toNat:Int)):pairAt s i=true:=by
 rw [show ((i:Int)+1).toNat=i+1 by omega] at h2 h3;simp only [pairAt,isPair,isSnd,bat,decide_eq_true_eq];omega
theorem pairAt_F0 {s:Str} {i:Nat} (h:¬((s.getD i 0).toNat:Int)=195):pairAt s i=false:=by
 simp only [pairAt,isPair,decide_eq_false h,Bool.false_and,Bool.and_false]
theorem pairAt_F1 {s:Str} {i:Nat} (h:¬i+1<s.length):pairAt s i=false:=by
 simp only [pairAt,decide_eq_false h,Bool.false_and]
theorem pairAt_F2 {s:Str} {i:Nat} (h:((s.getD ((i:Int)+1).toNat 0).toNat:Int)<128):pairAt s i=false:=by
 rw [show ((i:Int)+1).toNat=i+1 by omega] at h;simp only [pairAt,isPair,isSnd,decide_eq_false (show ¬(128:Int)<=(s.getD (i+1) 0).toNat by omega),Bool.false_and,Bool.and_false]
theorem pairAt_F3 {s:Str} {i:Nat} (h:(191:Int)<((s.getD ((i:Int)+1).toNat 0).toNat:Int)):pairAt s i=false:=by
 rw [show ((i:Int)+1).toNat=i+1 by omega] at h;simp only [pairAt,isPair,isSnd,decide_eq_false (show ¬((s.getD (i+1) 0).toNat:Int)<=191 by omega),Bool.and_false]
theorem vbad {s:Str} {i:Nat} (hv:validL s=validL (s.drop i)) (hi:i<s.length) (hp:pairAt s i=false) (hb:isPrn (s.getD i 0)=false):false=validS s:=by
 rw [validS,hv,validL_one hi hp,hb];rfl
theorem rvalid_ct (s:Str) (hs:s.length<=1000000000):Cr 351 [.str s] (.bool (validS s)):=by
 refine .det (De Tryz.func351 [] [] ?_)
 repeat' first|refine S0 ?_;conv=>whnf|exact T0|(refine Br.d (fun h=>?_) fun h=>?_)|refine T2 ?_ ?_
 ·rw [validS,decide_eq_false (by omega),Bool.and_false]
 ·refine Lw [] [] (α:=Nat) (fun i=>[(0,.str s),(3,i64 i)]) (fun i=>[]) 0 (fun i=>i<=s.length/\validL s=validL (s.drop i)) (fun i=>s.length - i) ?_ ?_
  ·refine Again.by 0 ⟨zle _,rfl⟩ ?_
   repeat' first|refine S0 ?_;conv=>whnf|refine Vo ?_|exact T0
  ·intro i ⟨hi,hv⟩
   repeat' first|refine S0 ?_;conv=>whnf|refine Vo ?_|exact T0|refine W6 ?_|refine B0 ?_|(refine Br.d (fun h=>?_) fun h=>?_)|refine Br.swap ?_|refine Br.bnot ?_|refine T2 ?_ ?_
   all_goals try simp only [tnc] at *
   ·refine Again.by (i+1) ⟨⟨by omega,by rw [hv,validL_one (by omega) (pairAt_F0 (by omega)),prn_T (by omega) (by omega),Bool.true_and]⟩,by omega⟩ ?_
    repeat' first|refine S0 ?_;conv=>whnf|refine Vo ?_|exact T0
   ·exact vbad hv (by omega) (pairAt_F1 (by omega)) (prn_F2 (by omega))
   ·exact vbad hv (by omega) (pairAt_F2 ‹_›) (prn_F2 (by omega))
   ·exact vbad hv (by omega) (pairAt_F3 ‹_›) (prn_F2 (by omega))
   ·refine Again.by (i+2) ⟨⟨by omega,by rw [hv,validL_pair (pairAt_T (by omega) (by omega) (by omega) (by omega))]⟩,by omega⟩ ?_
    repeat' first|refine S0 ?_;conv=>whnf|refine Vo ?_|exact T0
   ·exact vbad hv (by omega) (pairAt_F0 ‹_›) (prn_F2 (by omega))
   ·exact vbad hv (by omega) (pairAt_F0 (by omega)) (prn_F1 (by omega))
   ·rw [validS,hv,ddl (by omega),validL,Bool.true_and,decide_eq_true (by omega)]
theorem rpair {s:Str} {i:Nat} (hi:i<s.length) (hv:validL (s.drop i)=true) (h:((s.getD (i:Int).toNat 0).toNat:Int)=195):pairAt s i=true/\i+1<s.length/\128<=(s.getD ((i:Int)+1).toNat 0).toNat/\(s.getD ((i:Int)+1).toNat 0).toNat<=191:=by
 have hq:pairAt s i=true:=by
  cases hq:pairAt s i with
  | true=>rfl
  | false =>
    rw [tnc] at h;rw [validL_one hi hq,prn_F2 (by omega)] at hv;cases hv
 exact ⟨hq,pairAt_snd hq⟩
theorem one_by (x:UInt8) (i:Nat) (hi:i < [x].length):selC [[D.int .u8 (x.toNat:Int)]] i=bytesF [x] i:=by
 have:i=0:=by simpa using hi
 subst this;rfl
theorem one_up {x:UInt8} (h1:65<=(x.toNat:Int)) (h2:(x.toNat:Int)<=90) (i:Nat) (hi:i < [x+32].length):selC [[D.int .u8 ((x.toNat:Int)+32)]] i=bytesF [x+32] i:=by
 have:i=0:=by simpa using hi
 subst this
 have:((x+32).toNat:Int)=x.toNat+32:=by rw [UInt8.toNat_add];show (((x.toNat+32) % 256:Nat):Int)=_;omega
 simp only [selC,bytesF,List.getD_cons_zero,this]
structure Is (t u:Str):Prop where
 eq:t=u
structure St (s:Str) (i j:Nat) (t:Str):Prop where
 lt:i<j
 le:j<=s.length
 va:validL (s.drop j)=true
 ra:rawL (s.drop i)=t ++ rawL (s.drop j)
 ln:t.length<=2
 ns:∀ x ∈ t,x≠32
def StC (s:Str) (i:Nat) (y:Nat × Str × Bool):Prop:=(y.1<=s.length/\validL (s.drop y.1)=true/\y.2.1.length<=3*y.1/\FoldI s y.1 y.2.1 y.2.2)/\s.length - y.1<s.length - i
theorem St.no {s o t:Str} {i j:Nat} {u:Bool} (H:St s i j t) (h3:o.length<=3*i) (h4:FoldI s i o u) (e:t = []):StC s i (j,o,u):=by
 have h1:=H.lt;have h2:=H.le;have hr:=H.ra;rw [e] at hr;exact ⟨⟨h2,H.va,by dsimp only;omega,h4.no hr⟩,by dsimp only;omega⟩
theorem St.sp {s o t:Str} {i j:Nat} {u:Bool} (H:St s i j t) (h3:o.length<=3*i) (h4:FoldI s i o u) (e:¬t = []) (e1:u=true) (e2:¬o = []):StC s i (j,o ++ [32] ++ t,false):=by
 have h1:=H.lt;have h2:=H.le;have h5:=H.ln;exact ⟨⟨h2,H.va,by simp only [lap,List.length_cons,List.length_nil];omega,(h4.add H.ra e H.ns).1 e1 e2⟩,by dsimp only;omega⟩
theorem St.ad {s o t:Str} {i j:Nat} {u:Bool} (H:St s i j t) (h3:o.length<=3*i) (h4:FoldI s i o u) (e:¬t = []) (e1:u=false\/o = []):StC s i (j,o ++ t,false):=by
 have h1:=H.lt;have h2:=H.le;have h5:=H.ln;exact ⟨⟨h2,H.va,by simp only [lap];omega,(h4.add H.ra e H.ns).2 e1⟩,by dsimp only;omega⟩
theorem St.pair {s:Str} {i:Nat} (hv:validL (s.drop i)=true) (hi:(i:Int)<s.length) (h:((s.getD (i:Int).toNat 0).toNat:Int)=195):St s i (i+2) (repl (s.getD ((i:Int)+1).toNat 0)):=by
 obtain ⟨hp,hl,_⟩:=rpair (by omega) hv h;have:=repl_add (s.getD ((i:Int)+1).toNat 0);refine ⟨by omega,by omega,by rw [<-validL_pair hp];exact hv,?_,this.2,fun x hx=>an_ne (List.all_eq_true.1 this.1 x hx)⟩;rw [rawL_pair hp,show ((i:Int)+1).toNat=i+1 by omega]
theorem one_va {s:Str} {i:Nat} (hv:validL (s.drop i)=true) (hi:(i:Int)<s.length) (h:¬((s.getD (i:Int).toNat 0).toNat:Int)=195):validL (s.drop (i+1))=true/\rawL (s.drop i)=plainS (s.getD (i:Int).toNat 0) ++ rawL (s.drop (i+1)):=by
 rw [tnc] at h ⊢;have hp:pairAt s i=false:=pairAt_F0 h;rw [validL_one (by omega) hp,bat] at hv;exact ⟨hv.2,rawL_one (by omega) hp⟩
theorem pl_upper:∀ x:UInt8,65<=x.toNat->x.toNat<=90->plainS x = [x+32]/\∀ y ∈ [x+32],y≠32:=u8_dec (by decide +kernel)
theorem pl_an:∀ x:UInt8,(97<=x.toNat/\x.toNat<=122)\/(48<=x.toNat/\x.toNat<=57)->plainS x = [x]/\∀ y ∈ [x],y≠32:=u8_dec (by decide +kernel)
theorem pl_apo:∀ x:UInt8,x.toNat=39->plainS x = []:=u8_dec (by decide +kernel)
theorem pl_spc:∀ x:UInt8,¬(65<=x.toNat/\x.toNat<=90)->¬(97<=x.toNat/\x.toNat<=122)->¬(48<=x.toNat/\x.toNat<=57)->x.toNat≠39->plainS x = [32]:=u8_dec (by decide +kernel)
theorem St.up {s:Str} {i:Nat} (hv:validL (s.drop i)=true) (hi:(i:Int)<s.length) (h1:65<=((s.getD (i:Int).toNat 0).toNat:Int)) (h2:((s.getD (i:Int).toNat 0).toNat:Int)<=90):St s i (i+1) [s.getD (i:Int).toNat 0+32]:=by
 obtain ⟨a,b⟩:=one_va hv hi (by omega);obtain ⟨c,d⟩:=pl_upper (s.getD (i:Int).toNat 0) (by omega) (by omega);exact ⟨by omega,by omega,a,by rw [b,c],by simp,d⟩
theorem St.an {s:Str} {i:Nat} (hv:validL (s.drop i)=true) (hi:(i:Int)<s.length) (h:(97<=((s.getD (i:Int).toNat 0).toNat:Int)/\((s.getD (i:Int).toNat 0).toNat:Int)<=122)\/(48<=((s.getD (i:Int).toNat 0).toNat:Int)/\((s.getD (i:Int).toNat 0).toNat:Int)<=57)):St s i (i+1) [s.getD (i:Int).toNat 0]:=by
 obtain ⟨a,b⟩:=one_va hv hi (by omega);obtain ⟨c,d⟩:=pl_an (s.getD (i:Int).toNat 0) (by omega);exact ⟨by omega,by omega,a,by rw [b,c],by simp,d⟩
theorem St.apo {s:Str} {i:Nat} (hv:validL (s.drop i)=true) (hi:(i:Int)<s.length) (h1:((s.getD (i:Int).toNat 0).toNat:Int)=39):St s i (i+1) []:=by
 obtain ⟨a,b⟩:=one_va hv hi (by omega);exact ⟨by omega,by omega,a,by rw [b,pl_apo _ (by omega)],by simp,nofun⟩
theorem St.spc {s o:Str} {i:Nat} {u:Bool} (hv:validL (s.drop i)=true) (hi:(i:Int)<s.length) (h0:¬((s.getD (i:Int).toNat 0).toNat:Int)=195) (h1:¬(65<=((s.getD (i:Int).toNat 0).toNat:Int)/\((s.getD (i:Int).toNat 0).toNat:Int)<=90))
 (h2:¬(97<=((s.getD (i:Int).toNat 0).toNat:Int)/\((s.getD (i:Int).toNat 0).toNat:Int)<=122)) (h3:¬(48<=((s.getD (i:Int).toNat 0).toNat:Int)/\((s.getD (i:Int).toNat 0).toNat:Int)<=57)) (h4:¬((s.getD (i:Int).toNat 0).toNat:Int)=39) (h5:o.length<=3*i) (h6:FoldI s i o u):StC s i (i+1,o,true):=by
 obtain ⟨a,b⟩:=one_va hv hi h0;refine ⟨⟨by dsimp only;omega,a,by dsimp only;omega,h6.sp ?_⟩,by dsimp only;omega⟩;rw [b,pl_spc _ (by omega) (by omega) (by omega) (by omega)];rfl
theorem rfold_ct (s:Str) (hs:s.length<=100000):Cr 321 [.str s] (.tup [.str (foldO s),i64 (foldE s)]):=by
 refine .det (De Tryz.func321 [] [] ?_)
 repeat' first|refine S0 ?_;conv=>whnf|exact T0|refine Br.bnot ?_|(refine Bm (fun h=>?_) fun h=>?_)|refine T2 ?_ ?_|refine K0 ?_|(refine M0 (g:=351) (rvalid_ct _ (by first | omega | decide | (simp;done) | (simp;omega))) ?_)
 ·have hval:validL s=true:=by have:=‹validS s=true›;rw [validS,bat] at this;exact this.1
  refine Lw [] [] (α:=Nat × Str × Bool) (fun z=>[(0,.str s),(4,.str z.2.1),(5,.bool z.2.2),(6,i64 z.1)]) (fun z=>[]) 0 (fun z=>z.1<=s.length/\validL (s.drop z.1)=true/\z.2.1.length<=3*z.1/\FoldI s z.1 z.2.1 z.2.2) (fun z=>s.length - z.1) ?_ ?_
  ·refine Again.by (0,[],false) ⟨zle _,hval,Nat.le_refl _,FoldI.start s⟩ ?_
   repeat' first|refine S0 ?_;conv=>whnf|refine Vo ?_|exact T0
  ·intro ⟨i,o,u⟩ ⟨h1,h2,h3,h4⟩;dsimp only at h1 h2 h3 h4 ⊢
   have hp:((s.getD (i:Int).toNat 0).toNat:Int)=195->(i:Int)<s.length->pairAt s i=true/\i+1<s.length/\128<=(s.getD ((i:Int)+1).toNat 0).toNat/\(s.getD ((i:Int)+1).toNat 0).toNat<=191:=fun e1 e2=>rpair (by omega) h2 e1
   have hrl:=(repl_add (s.getD ((i:Int)+1).toNat 0)).2
   repeat' first|refine S0 ?_;conv=>whnf|refine Vo ?_|exact T0|refine W6 ?_|refine W8 ?_|refine B1 ?_|refine B0 ?_|(refine Vc.om ?_ ?_;focus ((rw [<-ht.eq] at hrl;omega);done))|(refine Vc.om ?_ ?_;focus ((rw [<-ht.eq] at hrl;simp only [lap,List.length_cons,List.length_nil];omega);done))|(refine Vc.om ?_ ?_;focus ((simp only [lap,List.length_cons,List.length_nil];omega);done))|(refine Met.by ((rrepl_ct (s.getD ((i:Int)+1).toNat 0) (by have:=hp ‹_› ‹_›;omega) (by have:=hp ‹_› ‹_›;omega)).mono fun r outs h=>(⟨_,⟨rfl⟩,h⟩:∃ t,Is t (repl (s.getD ((i:Int)+1).toNat 0))/\r = .str t/\outs = [])) ?_;rintro q outs ⟨t,ht,rfl,rfl⟩)|(refine Lf.by [(s.getD (i:Int).toNat 0)+32] ⟨rfl,one_up ‹_› ‹_›⟩ ?_)|(refine Lf.by [(s.getD (i:Int).toNat 0)] ⟨rfl,one_by _⟩ ?_)|(refine Again.by (i+2,o,u) ((by rw [ht.eq];exact St.pair h2 (by omega) (by omega):St s i (i+2) t).no h3 h4 ‹_›) ?_)|(refine Again.by (i+2,o ++ [32] ++ t,false) ((by rw [ht.eq];exact St.pair h2 (by omega) (by omega):St s i (i+2) t).sp h3 h4 ‹_› ‹_› ‹_›) ?_)|(refine Again.by (i+2,o ++ t,false) ((by rw [ht.eq];exact St.pair h2 (by omega) (by omega):St s i (i+2) t).ad h3 h4 ‹_› (by first | exact .inl ‹_› | exact .inr ‹_›)) ?_)|(refine Again.by (i+1,o ++ [32] ++ [(s.getD (i:Int).toNat 0)+32],false) ((St.up h2 (by omega) (by omega) (by omega)).sp h3 h4 (List.cons_ne_nil _ _) ‹_› ‹_›) ?_)|(refine Again.by (i+1,o ++ [(s.getD (i:Int).toNat 0)+32],false) ((St.up h2 (by omega) (by omega) (by omega)).ad h3 h4 (List.cons_ne_nil _ _) (by first | exact .inl ‹_› | exact .inr ‹_›)) ?_)|(refine Again.by (i+1,o ++ [32] ++ [(s.getD (i:Int).toNat 0)],false) ((St.an h2 (by omega) (by omega)).sp h3 h4 (List.cons_ne_nil _ _) ‹_› ‹_›) ?_)|(refine Again.by (i+1,o ++ [(s.getD (i:Int).toNat 0)],false) ((St.an h2 (by omega) (by omega)).ad h3 h4 (List.cons_ne_nil _ _) (by first | exact .inl ‹_› | exact .inr ‹_›)) ?_)|(refine Again.by (i+1,o,u) ((St.apo h2 (by omega) (by omega)).no h3 h4 rfl) ?_)|(refine Again.by (i+1,o,true) (St.spc h2 (by omega) (by omega) (by omega) (by omega) (by omega) (by omega) h3 h4) ?_)|(exact (h4.done (by omega)).trans (if_pos ‹_›).symm)|(exact (if_pos ‹_›).symm)|(refine Br.d (fun h=>?_) fun h=>?_)|refine Br.swap ?_|refine Br.bnot ?_|(refine Bm (fun h=>?_) fun h=>?_)|refine T2 ?_ ?_|refine K0 ?_
 ·simp only [foldO,‹validS s=false›];trivial
 ·simp only [foldE,‹validS s=false›];trivial
theorem join_le (a b:List Str):(joinS [32] a).length<=(joinS [32] (a ++ b)).length:=by
 cases a with
 | nil=>simp [joinS]| cons y r=>simp [joinS,tailS_app]
theorem join_take (l:List Str) (i:Nat):(joinS [32] (l.take i)).length<=(joinS [32] l).length:=by
 have:=join_le (l.take i) (l.drop i)
 rwa [List.take_append_drop] at this
theorem join_one {l:List Str} {i:Nat} (hi:i<l.length):joinS [32] (l.take (i+1))=if i=0 then l.getD i [] else joinS [32] (l.take i) ++ [32] ++ l.getD i []:=by
 have h:l.take i = [] ↔ i=0:=by
  constructor
  ·intro h;have:=congrArg List.length h;rw [List.length_take,List.length_nil] at this;omega
  ·rintro rfl;simp
 have:l.take (i+1)=l.take i ++ [l.getD i []]:=by
  rw [List.take_add_one,List.getElem?_eq_getElem hi,gDe,List.getElem?_eq_getElem hi];rfl
 rw [this,joinS_snoc];simp only [h]
theorem rjoin_ct (l:List Str) (hl:l.length<=1000000) (hj:(joinS [32] l).length<=1000000000):Cr 325 [strs l] (.str (joinS [32] l)):=by
 refine .det (De Tryz.func325 [] [] ?_)
 repeat' first|refine S0 ?_;conv=>whnf
 refine Lw [] [] (α:=Nat) (fun i=>[(0,strs l),(3,.str (joinS [32] (l.take i))),(4,i64 i)]) (fun i=>[]) 0 (fun i=>i<=l.length) (fun i=>l.length - i) ?_ ?_
 ·refine Again.by 0 (zle _) ?_
  repeat' first|refine S0 ?_;conv=>whnf|refine Vo ?_|exact T0|(rfl)|refine Vm ?_ ?_
 ·intro i hi;have h1:=join_take l i;have h2:=join_take l (i+1)
  have h3:i<l.length->(if i=0 then l.getD i [] else joinS [32] (l.take i) ++ [32] ++ l.getD i []).length<=1000000000:=fun h=>by rw [<-join_one h];omega
  repeat' first|refine S0 ?_;conv=>whnf|refine Vo ?_|exact T0|refine W6 ?_|(refine Vc.om ?_ ?_;focus ((simp only [lap,List.length_cons,List.length_nil,tnc];have h3:=h3 (by omega);first | rw [if_neg (by omega)] at h3;simp only [lap,List.length_cons,List.length_nil] at h3;omega | rw [if_pos (by omega)] at h3;omega);done))|(refine Br.d (fun h=>?_) fun h=>?_)|refine T2 ?_ ?_
  all_goals try simp only [tnc] at *
  ·refine Again.by (i+1) ⟨by omega,by omega⟩ ?_
   rw [join_one (by omega),if_neg (by omega)]
   repeat' first|refine S0 ?_;conv=>whnf|refine Vo ?_|exact T0
  ·obtain rfl:i=0:=by omega
   refine Again.by 1 ⟨by omega,by omega⟩ ?_
   rw [join_one (i:=0) (by omega),if_pos rfl]
   repeat' first|refine S0 ?_;conv=>whnf|refine Vo ?_|exact T0|(rfl)|refine Vm ?_ ?_
  ·rw [show i=l.length by omega,List.take_length]
end Kx
