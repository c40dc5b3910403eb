/-
  Texts: letters, tokens, lengths.
  No condition beyond those written in each theorem.
-/
import Derived.Test.YtmomigckcngegaaGreatDoorKA1
import Derived.Test.YtmomigckcngegaaGreatDoorFD
import Derived.Test.YtmomigckcngegaaGreatDoorKA2
set_option linter.unusedSimpArgs false
set_option linter.unusedVariables false
set_option maxRecDepth 4000
open Go Sx Go.Proofs
namespace Kx
def isLet (x:UInt8):Bool:=decide (97≤(x.toNat:Int)) && decide ((x.toNat:Int)≤122)
def letters (s:Str):Str:=s.filter isLet
theorem take_one (s:Str) (i:Nat) (h:i<s.length):s.take (i+1)=s.take i ++ [s.getD i 0]:=by
 rw [List.take_add_one,List.getElem?_eq_getElem h,List.getD_eq_getElem?_getD,List.getElem?_eq_getElem h];rfl
theorem cut_one (s:Str) (i:Nat) (h:i<s.length):(s.take (i+1)).drop i = [s.getD i 0]:=by
 rw [take_one s i h,List.drop_append_of_le_length (by simp;omega),List.drop_of_length_le (by simp;omega)];rfl
theorem letters_one (s:Str) (i:Nat) (h:i<s.length):letters (s.take (i+1))=letters (s.take i) ++ if isLet (s.getD i 0) then [s.getD i 0] else []:=by
 rw [take_one s i h];simp only [letters,List.filter_append,List.filter_cons,List.filter_nil]
theorem letters_len (s:Str):(letters s).length≤s.length:=List.length_filter_le _ _
theorem letters_len' (s:Str) (i:Nat):(letters (s.take i)).length≤i:=Nat.le_trans (letters_len _) (by rw [List.length_take];omega)
theorem isLet_T {x:UInt8} (h1:97≤(x.toNat:Int)) (h2:(x.toNat:Int)≤122):isLet x=true:=by simp only [isLet,h1,h2,decide_true,Bool.and_self]
theorem isLet_F1 {x:UInt8} (h1:¬97≤(x.toNat:Int)):isLet x=false:=by simp only [isLet,h1,decide_false,Bool.false_and]
theorem isLet_F2 {x:UInt8} (h1:¬(x.toNat:Int)≤122):isLet x=false:=by simp only [isLet,h1,decide_false,Bool.and_false]
theorem rletters_ct (s:Str) (hs:s.length≤1000000000000000):Ct Tryz.prog 191 [.str s] fun r outs=>r = .str (letters s)∧outs = []:=by
 refine .det (De Tryz.func191 [] [] ?_)
 repeat' first|(refine S0 ?_;conv=>whnf)
 refine CodeOK.loopW hΓ hm [] [] (by kernel_rfl) (α:=Nat) (fun i=>[(0,.str s),(3,.str (letters (s.take i))),(4,i64 i)]) (fun i=>[]) 0 (fun i=>i≤s.length) (fun i=>s.length - i) ?_ ?_
 ·refine Again.by 0 (Nat.zero_le _) ?_
  repeat' first|(refine S0 ?_;conv=>whnf)|(refine Vo ?_)|exact T0|(rfl)|(refine Vm ?_ ?_)
 ·intro i hi
  have hl:=letters_len' s i
  repeat' first|(refine S0 ?_;conv=>whnf)|(refine Vo ?_)|exact T0|(refine W6 ?_)|(refine Vc.om ?_ ?_;focus (simp;omega;done))|(refine Br.d (fun h=>?_) fun h=>?_)|(refine T2 ?_ ?_)
  all_goals try simp only [Int.toNat_natCast] at *
  ·refine Again.by (i+1) ⟨by omega,by omega⟩ ?_
   repeat' first|(refine S0 ?_;conv=>whnf)|(refine Vo ?_)|exact T0|(rw [letters_one s i (by omega),isLet_T ‹_› ‹_›,if_pos rfl];exact congrArg _ (cut_one s i (by omega)))|(refine Vm ?_ ?_)
  ·refine Again.by (i+1) ⟨by omega,by omega⟩ ?_
   repeat' first|(refine S0 ?_;conv=>whnf)|(refine Vo ?_)|(refine Vb ?_)|exact T0|(rw [letters_one s i (by omega),isLet_F2 ‹_›];simp)
  ·refine Again.by (i+1) ⟨by omega,by omega⟩ ?_
   repeat' first|(refine S0 ?_;conv=>whnf)|(refine Vo ?_)|(refine Vb ?_)|exact T0|(rw [letters_one s i (by omega),isLet_F1 ‹_›];simp)
  ·rw [show i=s.length by omega,List.take_length]
theorem letter_ct (x:UInt8):Ct Tryz.prog 135 [u8 x.toNat] fun r outs=>r = .bool (isLet x)∧outs = []:=by
 refine .det (De Tryz.func135 [] [] ?_)
 repeat' first|(refine S0 ?_;conv=>whnf)|exact T0|(refine Br.d (fun h=>?_) fun h=>?_)|(refine T2 ?_ ?_)
 all_goals first
  | trivial
  | exact hb h
  | with_reducible rfl
  | with_reducible exact same_rfl
  | omega
  | ((simp [isLet, *];done))
theorem letters_ct (s:Str) (hs:s.length≤1000000000000):Ct Tryz.prog 86 [.str s] fun r outs=>r = .str (letters s)∧outs = []:=by
 refine .det (De Tryz.func86 [] [] ?_)
 repeat' first|(refine S0 ?_;conv=>whnf)
 refine CodeOK.loopW hΓ hm [] [] (by kernel_rfl) (α:=Nat) (fun i=>[(0,.str s),(6,i64 s.length),(3,.own 0),(7,i64 i)]) (fun i=>[(0,.arr 5 1 (letters (s.take i)).length (bytesF (letters (s.take i))))]) 1 (fun i=>i≤s.length) (fun i=>s.length - i) ?_ ?_
 ·refine Again.by 0 (Nat.zero_le _) ?_
  repeat' first|(refine S0 ?_;conv=>whnf)|(refine Vo ?_)|exact T0|(rfl)|(refine Vm ?_ ?_)
 ·intro i hi
  have hl:=letters_len' s i
  repeat' first|(refine S0 ?_;conv=>whnf)|(refine Vo ?_)|(refine Vb ?_)|(refine W6 ?_)|(refine Br.d (fun h=>?_) fun h=>?_)|(refine Bm (fun h=>?_) fun h=>?_)|(refine K0 ?_)|(refine Met.by (g:=135) (letter_ct _) ?_;rintro q outs ⟨rfl,rfl⟩)
  all_goals try simp only [Int.toNat_natCast] at *
  ·refine Again.by (i+1) ⟨by omega,by omega⟩ ?_
   rw [letters_one s i (by omega),h,if_pos rfl]
   repeat' first|(refine S0 ?_;conv=>whnf)|(refine Vo ?_)|exact T0|(exact byte_app _ _ rfl)|(refine Vm ?_ ?_)
  ·refine Again.by (i+1) ⟨by omega,by omega⟩ ?_
   rw [letters_one s i (by omega),h,if_neg (by simp),List.append_nil]
   repeat' first|(refine S0 ?_;conv=>whnf)|(refine Vo ?_)|exact T0
  ·refine Lf.by _ ⟨rfl,fun _ _=>rfl⟩ ?_
   repeat' first|(refine S0 ?_;conv=>whnf)|exact T0|(rw [show i=s.length by omega,List.take_length])|(refine T2 ?_ ?_)
theorem toksF_space (part l:Str):toksF part (32 :: l)=(if part = [] then [] else [part]) ++ toks l:=by
 rw [toksF,if_pos rfl];split<;>rfl
theorem toksF_other (part:Str) (x:UInt8) (l:Str) (h:x≠32):toksF part (x :: l)=toksF (part ++ [x]) l:=by
 rw [toksF,if_neg h]
theorem byte_eq {x y:UInt8} (h:(x.toNat:Int)=(y.toNat:Int)):x=y:=UInt8.toNat_inj.1 (by omega)
theorem rtokens_ct (s:Str) (hs:s.length≤1000000000000):Ct Tryz.prog 197 [.str s] fun r outs=>r=strsO 9 (toks s)∧outs = []:=by
 refine .det (De Tryz.func197 [] [] ?_)
 repeat' first|(refine S0 ?_;conv=>whnf)
 refine CodeOK.loopW hΓ hm [] [] (by kernel_rfl) (α:=Nat × Str × List Str) (fun z=>[(0,.str s),(3,.own 0),(4,.str z.2.1),(5,i64 z.1)]) (fun z=>[(0,.arr 9 1 z.2.2.length fun i=>[.str (z.2.2.getD i [])])]) 1 (fun z=>z.1≤s.length+1∧z.2.1.length+z.2.2.length≤z.1∧toks s=z.2.2 ++ (if z.1≤s.length then toksF z.2.1 (s.drop z.1) else [])) (fun z=>s.length+1 - z.1) ?_ ?_
 ·refine Again.by (0,[],[]) ⟨Nat.zero_le _,Nat.le_refl _,by simp [toks]⟩ ?_
  repeat' first|(refine S0 ?_;conv=>whnf)|(refine Vo ?_)|exact T0|(refine Vm ?_ ?_)
 ·intro ⟨i,part,out⟩ ⟨h1,h2,h3⟩
  dsimp only at h1 h2 h3 ⊢
  have hcut:i<s.length→List.drop i (List.take ((i:Int)+1).toNat s) = [s.getD i 0]:=cut_step s 0 i
  have hdr:=drop_step s 0 i
  repeat' first|(refine S0 ?_;conv=>whnf)|(refine Vo ?_)|(refine Vb ?_)|exact T0|(refine W6 ?_)|(refine Vc.om ?_ ?_;focus (simp;omega;done))|(refine Br.d (fun h=>?_) fun h=>?_)|(refine Br.bnot ?_)|(refine T2 ?_ ?_)
  all_goals try simp only [Int.toNat_natCast] at *
  ·have hx:s.getD i 0=32:=byte_eq ‹_›
   refine Again.by (i+1,[],out) ⟨⟨by dsimp only;omega,by dsimp only [List.length_nil];omega,?_⟩,by dsimp only;omega⟩ ?_
   ·dsimp only
    rw [h3,if_pos (by omega),if_pos (by omega),hdr (by omega),hx,toksF_space,if_pos ‹_›];rfl
   ·dsimp only
    repeat' first|(refine S0 ?_;conv=>whnf)|(refine Vo ?_)|exact T0
  ·have hx:s.getD i 0=32:=byte_eq ‹_›
   have:1≤part.length:=List.length_pos_iff.2 ‹_›
   refine Again.by (i+1,[],out ++ [part]) ⟨⟨by dsimp only;omega,by simp;omega,?_⟩,by dsimp only;omega⟩ ?_
   ·dsimp only
    rw [h3,if_pos (by omega),if_pos (by omega),hdr (by omega),hx,toksF_space,if_neg ‹_›,List.append_assoc];rfl
   ·dsimp only
    repeat' first|(refine S0 ?_;conv=>whnf)|(refine Vo ?_)|exact T0|(exact str_app _ _ rfl)|(refine Vm ?_ ?_)
  ·have hx:s.getD i 0≠32:=fun e=>by rw [e] at h;exact h rfl
   refine Again.by (i+1,part ++ [s.getD i 0],out) ⟨⟨by dsimp only;omega,by simp;omega,?_⟩,by dsimp only;omega⟩ ?_
   ·dsimp only
    rw [h3,if_pos (by omega),if_pos (by omega),hdr (by omega),toksF_other _ _ _ hx]
   ·dsimp only
    rw [hcut (by omega)]
    repeat' first|(refine S0 ?_;conv=>whnf)|(refine Vo ?_)|exact T0
  ·have hi:i=s.length:=by omega
   refine Again.by (i+1,[],out) ⟨⟨by dsimp only;omega,by dsimp only [List.length_nil];omega,?_⟩,by dsimp only;omega⟩ ?_
   ·dsimp only
    rw [h3,if_pos (by omega),if_neg (by omega),hi,List.drop_length,toksF,if_pos ‹_›]
   ·dsimp only
    repeat' first|(refine S0 ?_;conv=>whnf)|(refine Vo ?_)|exact T0
  ·have hi:i=s.length:=by omega
   have:1≤part.length:=List.length_pos_iff.2 ‹_›
   refine Again.by (i+1,[],out ++ [part]) ⟨⟨by dsimp only;omega,by simp;omega,?_⟩,by dsimp only;omega⟩ ?_
   ·dsimp only
    rw [h3,if_pos (by omega),if_neg (by omega),hi,List.drop_length,toksF,if_neg ‹_›];simp
   ·dsimp only
    repeat' first|(refine S0 ?_;conv=>whnf)|(refine Vo ?_)|exact T0|(exact str_app _ _ rfl)|(refine Vm ?_ ?_)
  ·rw [h3,if_neg (by omega),List.append_nil]
   exact ⟨rfl,fun _ _=>rfl⟩
theorem space_ct (x:Nat) (h:x≤1114111):Ct Tryz.prog 240 [.int .i32 x] fun r outs=>r = .bool (decide (x=32))∧outs = []:=by
 refine .det (De Tryz.func240 [] [] ?_)
 repeat' first|(refine S0 ?_;conv=>whnf)|exact T0|(refine T2 ?_ ?_)
 all_goals first
  | trivial
  | exact hb h
  | with_reducible rfl
  | with_reducible exact same_rfl
  | omega
  | ((simp;omega))
theorem ffunc_ct (s:Str) (hs:s.length≤1000000000):Ct Tryz.prog 239 [.str s,.fn 240 []] fun r outs=>r=strsO 9 (toks s)∧outs = [] :=
 fields_ct ⟨Tryz.f239,Tryz.func239,by decide,by decide⟩ s space_ct (fun p s w h1 h2 h3=>Kx.strings_FieldsFunc_grows 240 #[] h1 p s w h2 h3) (by omega)
theorem tokens_ct (s:Str) (hs:s.length≤1000000000):Ct Tryz.prog 209 [.str s] fun r outs=>r=strsO 9 (toks s)∧outs = []:=by
 refine .det (De Tryz.func209 [] [] ?_)
 repeat' first|(refine S0 ?_;conv=>whnf)|exact T0|exact T1|(refine Met.by (ffunc_ct s (by omega)) ?_;rintro q outs ⟨rfl,rfl⟩)|(refine T2 ?_ ?_)|(refine K0 ?_)
end Kx
open Go Sx Go.Proofs
namespace Kx
theorem one_ct (d:Dk) (n:Int):Ct Tryz.prog 25 [d.b,i64 n] fun r outs=>∃ x d',True∧r = .bool x∧outs = [Dk.b d']:=by
 refine .some2 (De Tryz.func25 [] [] ?_)
 repeat' first|(refine S0 ?_;conv=>whnf)|(refine CallOK.io1 (g:=14) (Step.out ?_))|(refine Met.by (g:=14) (next_ct _ _) ?_;rintro q outs ⟨x,d,hx,rfl,rfl⟩)
 refine Lf2.by (decide (x=0)) d trivial ?_
 repeat' first|(refine S0 ?_;conv=>whnf)|exact T0|exact T1|(refine T2 ?_ ?_)
theorem pick_ct (d:Dk) (l:List Str) (h1:1≤l.length) (h2:l.length≤1000):Ct Tryz.prog 114 [d.b,strs l] fun r outs=>∃ x d',x ∈ l∧r = .str x∧outs = [Dk.b d']:=by
 refine .some2 (De Tryz.func114 [] [] ?_)
 repeat' first|(refine S0 ?_;conv=>whnf)|(refine Vo ?_)|(refine CallOK.io1 (g:=14) (Step.out ?_))|(refine Met.by (g:=14) (next_ct _ _) ?_;rintro q outs ⟨x,d,hx,rfl,rfl⟩)
 refine Lf2.by (l.getD x.toNat []) d (getD_in (by omega)) ?_
 repeat' first|(refine S0 ?_;conv=>whnf)|exact T0|exact T1|(refine T2 ?_ ?_)
theorem dk_wk (d:Dk):ioEq [d.b] [d.b]=true∧wkD d.b d.b false:=⟨rfl,⟨⟨rfl,fun _ _=>rfl⟩,rfl,rfl,trivial⟩⟩
theorem picks_ct (d:Dk) (l:List Str) (h1:1≤l.length) (h2:l.length≤1000):Ct Tryz.prog 114 [d.b,.tab 1 l.length fun i=>selC (l.map fun s=>[D.str s]) i] fun r outs=>∃ x d',x ∈ l∧r = .str x∧outs = [Dk.b d'] :=
 .lit2 l (dk_wk d) (pick_ct d l h1 h2)
theorem picksP_ct (φ:Str→Prop) (d:Dk) (l:List Str) (h:∀ x ∈ l,φ x) (h1:1≤l.length) (h2:l.length≤1000):Ct Tryz.prog 114 [d.b,.tab 1 l.length fun i=>selC (l.map fun s=>[D.str s]) i] fun r outs=>∃ x d',φ x∧r = .str x∧outs = [Dk.b d'] :=
 (picks_ct d l h1 h2).mono fun _ _ ⟨x,d,hx,hr⟩=>⟨x,d,h x hx,hr⟩
def Tok (s:Str):Prop:=1≤s.length∧s.length≤8∧∀ x ∈ s,isLet x=true
def tokB (s:Str):Bool:=decide (1≤s.length) && decide (s.length≤8) && s.all isLet
theorem Tok.of {s:Str} (h:tokB s=true):Tok s:=by
 simp only [tokB,Bool.and_eq_true,decide_eq_true_eq,List.all_eq_true] at h
 exact ⟨h.1.1,h.1.2,h.2⟩
end Kx
