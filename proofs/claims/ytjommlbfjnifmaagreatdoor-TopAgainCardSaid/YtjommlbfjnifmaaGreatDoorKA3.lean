/-
  Texts: letters, tokens, lengths.
  No condition beyond those written in each theorem.
-/
import Derived.Test.YtjommlbfjnifmaaGreatDoorKA1
import Derived.Test.YtjommlbfjnifmaaGreatDoorFD
import Derived.Test.YtjommlbfjnifmaaGreatDoorKA2
set_option linter.unusedSimpArgs false
set_option linter.unusedVariables false
set_option maxRecDepth 4000
open Go Sx Go.Proofs
namespace Kx
def isLet (x:UInt8):Bool:=decide (97<=(x.toNat:Int)) && decide ((x.toNat:Int)<=122)
def letters (s:Str):Str:=s.filter isLet
theorem take_one (s:Str) (i:Nat) (h:i<s.length):s.take (i+1)=s.take i ++ [s.getD i 0]:=by
 rw [List.take_add_one,List.getElem?_eq_getElem h,gDe,List.getElem?_eq_getElem h];rfl
theorem letters_one (s:Str) (i:Nat) (h:i<s.length):letters (s.take (i+1))=letters (s.take i) ++ if isLet (s.getD i 0) then [s.getD i 0] else []:=by
 rw [take_one s i h];simp only [letters,List.filter_append,List.filter_cons,List.filter_nil]
theorem letters_len (s:Str):(letters s).length<=s.length:=List.length_filter_le _ _
theorem letters_len' (s:Str) (i:Nat):(letters (s.take i)).length<=i:=Nat.le_trans (letters_len _) (by rw [List.length_take];omega)
theorem letter_ct (x:UInt8):Cr 163 [u8 x.toNat] (.bool (isLet x)):=by
 refine .det (De Tryz.func163 [] [] ?_)
 repeat' first|refine S0 ?_;conv=>whnf|exact T0|(refine Br.d (fun h=>?_) fun h=>?_)|refine T2 ?_ ?_
 all_goals first
  | trivial
  | exact hb h
  | with_reducible rfl
  | with_reducible exact same_rfl
  | omega
  | ((simp [isLet, *];done))
theorem letters_ct (s:Str) (hs:s.length<=1000000000000):Cr 110 [.str s] (.str (letters s)):=by
 refine .det (De Tryz.func110 [] [] ?_)
 repeat' first|refine S0 ?_;conv=>whnf
 refine Lw [] [] (α:=Nat) (fun i=>[(0,.str s),(6,i64 s.length),(3,.own 0),(7,i64 i)]) (fun i=>[(0,.arr 5 1 (letters (s.take i)).length (bytesF (letters (s.take i))))]) 1 (fun i=>i<=s.length) (fun i=>s.length - i) ?_ ?_
 ·refine Again.by 0 (zle _) ?_
  repeat' first|refine S0 ?_;conv=>whnf|refine Vo ?_|exact T0|(rfl)|refine Vm ?_ ?_
 ·intro i hi;have hl:=letters_len' s i
  repeat' first|refine S0 ?_;conv=>whnf|refine Vo ?_|refine Vb ?_|refine W6 ?_|(refine Br.d (fun h=>?_) fun h=>?_)|(refine Bm (fun h=>?_) fun h=>?_)|refine K0 ?_|(refine M0 (g:=163) (letter_ct _) ?_)
  all_goals try simp only [tnc] at *
  ·refine Again.by (i+1) ⟨by omega,by omega⟩ ?_
   rw [letters_one s i (by omega),h,if_pos rfl]
   repeat' first|refine S0 ?_;conv=>whnf|refine Vo ?_|exact T0|(exact byte_app _ _ rfl)|refine Vm ?_ ?_
  ·refine Again.by (i+1) ⟨by omega,by omega⟩ ?_
   rw [letters_one s i (by omega),h,if_neg (by simp),List.append_nil]
   repeat' first|refine S0 ?_;conv=>whnf|refine Vo ?_|exact T0
  ·refine Lf.by _ ⟨rfl,fun _ _=>rfl⟩ ?_
   repeat' first|refine S0 ?_;conv=>whnf|exact T0|(rw [show i=s.length by omega,List.take_length])|refine T2 ?_ ?_
theorem space_ct (x:Nat) (h:x<=1114111):Cr 257 [.int .i32 x] (.bool (decide (x=32))):=by
 refine .det (De Tryz.func257 [] [] ?_)
 repeat' first|refine S0 ?_;conv=>whnf|exact T0|refine T2 ?_ ?_
 all_goals first
  | trivial
  | exact hb h
  | with_reducible rfl
  | with_reducible exact same_rfl
  | omega
  | ((simp;omega))
theorem ffunc_ct (s:Str) (hs:s.length<=1000000000):Cr 256 [.str s,.fn 257 []] (strsO 9 (toks s)) :=
 fields_ct ⟨Tryz.f256,Tryz.func256,by decide,by decide⟩ s space_ct (fun p s w h1 h2 h3=>Kx.strings_FieldsFunc_grows 257 #[] h1 p s w h2 h3) (by omega)
theorem tokens_ct (s:Str) (hs:s.length<=1000000000):Cr 223 [.str s] (strsO 9 (toks s)):=by
 refine .det (De Tryz.func223 [] [] ?_)
 repeat' first|refine S0 ?_;conv=>whnf|exact T0|exact T1|(refine M0 (ffunc_ct s (by omega)) ?_)|refine T2 ?_ ?_|refine K0 ?_
end Kx
open Go Sx Go.Proofs
namespace Kx
theorem one_ct (d:Dk) (n:Int):Ct Tryz.prog 30 [d.b,i64 n] fun r outs=>∃ x d',True/\r = .bool x/\outs = [Dk.b d']:=by
 refine .some2 (De Tryz.func30 [] [] ?_)
 repeat' first|refine S0 ?_;conv=>whnf|(refine CallOK.io1 (g:=7) (Step.out ?_))|(refine Met.by (g:=7) (next_ct _ _) ?_;rintro q outs ⟨x,d,hx,rfl,rfl⟩)
 refine Lf2.by (decide (x=0)) d trivial ?_
 repeat' first|refine S0 ?_;conv=>whnf|exact T0|exact T1|refine T2 ?_ ?_
end Kx
open Go Sx Go.Proofs
namespace Kx
theorem sjoin_ct (l:List Str) (sep:Str) (hl:l.length<=1000000000) (hj:(joinS sep l).length<=1000000000):Cr 230 [strs l,.str sep] (.str (joinS sep l)) :=
 join_ct ⟨Tryz.f230,Tryz.func230,by decide,by decide⟩ l sep (by omega) (by omega) Kx.strings_Join_none Kx.strings_Join
theorem join1_ct (l:List Str) (hl:l.length<=1000000000) (hj:(joinS [32] l).length<=1000000000):Cr 225 [strs l] (.str (joinS [32] l)):=by
 refine .det (De Tryz.func225 [] [] ?_)
 repeat' first|refine S0 ?_;conv=>whnf|exact T0|(refine M0 (sjoin_ct l [32] hl hj) ?_)|refine T2 ?_ ?_|refine K0 ?_
theorem digit_ct (x:UInt8):Cr 275 [u8 x.toNat] (.bool (isDig x)):=by
 refine .det (De Tryz.func275 [] [] ?_)
 repeat' first|refine S0 ?_;conv=>whnf|exact T0|(refine Br.d (fun h=>?_) fun h=>?_)|refine T2 ?_ ?_
 all_goals first
  | trivial
  | exact hb h
  | with_reducible rfl
  | with_reducible exact same_rfl
  | omega
  | ((simp [isDig, *];done))
theorem pair_ct (s:Str) (i:Nat) (hi:i<s.length) (hs:s.length<=1000000000):Cr 252 [.str s,i64 i] (.bool (pairAt s i)):=by
 refine .det (De Tryz.func252 [] [] ?_)
 repeat' first|refine S0 ?_;conv=>whnf|refine Vo ?_|exact T0|refine W6 ?_|(refine Br.d (fun h=>?_) fun h=>?_)|refine T2 ?_ ?_
 all_goals try simp only [tnc,show ((i:Int)+1).toNat=i+1 by omega] at *
 all_goals first
  | trivial
  | exact hb h
  | with_reducible rfl
  | with_reducible exact same_rfl
  | omega
  | ((simp_all [-List.getD_eq_getElem?_getD,pairAt,isPair,isSnd];done))
  | ((simp_all [-List.getD_eq_getElem?_getD,pairAt,isPair,isSnd];omega))
theorem prn_F1 {x:UInt8} (h:(x.toNat:Int)<32):isPrn x=false:=by simp only [isPrn,decide_eq_false (show ¬(32:Int)<=x.toNat by omega),Bool.false_and]
theorem prn_F2 {x:UInt8} (h:(126:Int)<x.toNat):isPrn x=false:=by simp only [isPrn,decide_eq_false (show ¬(x.toNat:Int)<=126 by omega),Bool.and_false]
theorem prn_T {x:UInt8} (h1:¬(x.toNat:Int)<32) (h2:¬(126:Int)<x.toNat):isPrn x=true:=by simp only [isPrn,decide_eq_true (show (32:Int)<=x.toNat by omega),decide_eq_true (show (x.toNat:Int)<=126 by omega),Bool.and_self]
theorem pairAt_lt {s:Str} {i:Nat} (h:pairAt s i=true):i+1<s.length:=by
 simp only [pairAt,bat,decide_eq_true_eq] at h;exact h.1
theorem valid_ct (s:Str) (hs:s.length<=1000000000):Cr 250 [.str s] (.bool (validS s)):=by
 refine .det (De Tryz.func250 [] [] ?_)
 repeat' first|refine S0 ?_;conv=>whnf
 refine Lw [] [] (α:=Nat) (fun i=>[(0,.str s),(3,i64 i)]) (fun i=>[]) 0 (fun i=>i<=s.length/\validL s=validL (s.drop i)) (fun i=>s.length - i) ?_ ?_
 ·refine Again.by 0 ⟨zle _,rfl⟩ ?_
  repeat' first|refine S0 ?_;conv=>whnf|refine Vo ?_|exact T0
 ·intro i ⟨hi,hv⟩
  repeat' first|refine S0 ?_;conv=>whnf|refine Vo ?_|exact T0|refine W6 ?_|(refine Br.d (fun h=>?_) fun h=>?_)|refine Br.swap ?_|(refine Bm (fun h=>?_) fun h=>?_)|refine T2 ?_ ?_|refine K0 ?_|(refine M0 (g:=252) (pair_ct _ _ (by omega) (by omega)) ?_)
  all_goals try simp only [tnc] at *
  ·have:=pairAt_lt ‹_›
   refine Again.by (i+2) ⟨⟨by omega,by rw [hv,validL_pair ‹_›]⟩,by omega⟩ ?_
   repeat' first|refine S0 ?_;conv=>whnf|refine Vo ?_|exact T0
  ·rw [validS,hv,validL_one (by omega) ‹_›,prn_F1 ‹_›];rfl
  ·rw [validS,hv,validL_one (by omega) ‹_›,prn_F2 ‹_›];rfl
  ·refine Again.by (i+1) ⟨⟨by omega,by rw [hv,validL_one (by omega) ‹_›,prn_T ‹_› ‹_›,Bool.true_and]⟩,by omega⟩ ?_
   repeat' first|refine S0 ?_;conv=>whnf|refine Vo ?_|exact T0
  ·rw [validS,hv,ddl (by omega),validL,Bool.true_and,decide_eq_decide];omega
def replD (i:Nat):D:=.str (replL.getD i [])
theorem nthA_str:∀ (ps:List (Nat × D)) (l:List Str),ps.map (·.2)=l.map .str->∀ i,i<l.length->nthA ps i = .str (l.getD i [])
 | [],[],_,_,h=>by simp at h
 | (k,d) :: ps,x :: l,h,0,_=>by simp at h;simp [nthA,h.1]
 | (k,d) :: ps,x :: l,h,i+1,hi=>by simp at h;simpa [nthA] using nthA_str ps l (by simpa using h.2) i (by simpa using hi)
 | [],_ :: _,h,_,_=>by simp at h
 | _ :: _,[],h,_,_=>by simp at h
set_option maxRecDepth 4000 in
theorem repls_ct:Cr 251 [] (.vec 64 replD):=by
 refine .det (De Tryz.func251 [] [] ?_)
 repeat' first|(exact fun i hi=>nthA_str _ replL rfl i (by simpa [replL] using hi))|refine S0 ?_;conv=>whnf|exact T0|refine T2 ?_ ?_|refine Vm ?_ ?_
theorem utf8_low (x:UInt8) (h1:65<=(x.toNat:Int)) (h2:(x.toNat:Int)<=90):utf8 ((x.toNat:Int) - 65+97)=plainS x:=by
 have:=all_u8 (p:=fun x=>!(decide (65<=(x.toNat:Int)) && decide ((x.toNat:Int)<=90)) || (utf8 ((x.toNat:Int) - 65+97) == plainS x)) (by decide +kernel) x;simpa [h1,h2] using this
theorem pl_let (x:UInt8) (h:isLet x=true):utf8 (x.toNat:Int)=plainS x:=by
 have:=all_u8 (p:=fun x=>!(isLet x) || (utf8 (x.toNat:Int) == plainS x)) (by decide +kernel) x;simpa [h] using this
theorem pl_dig (x:UInt8) (h:isDig x=true):utf8 (x.toNat:Int)=plainS x:=by
 have:=all_u8 (p:=fun x=>!(isDig x) || (utf8 (x.toNat:Int) == plainS x)) (by decide +kernel) x;simpa [h] using this
theorem pl_ap (x:UInt8) (h:(x.toNat:Int)=39):({ data:=#[] }:ByteArray).data.toList=plainS x:=by
 have:=all_u8 (p:=fun x=>!(decide ((x.toNat:Int)=39)) || (([]:Str) == plainS x)) (by decide +kernel) x;simpa [h] using this
theorem pl_sp (x:UInt8) (h1:¬(65<=(x.toNat:Int)/\(x.toNat:Int)<=90)) (h2:isLet x=false) (h3:isDig x=false) (h4:¬(x.toNat:Int)=39):({ data:=#[32] }:ByteArray).data.toList=plainS x:=by
 have:=all_u8 (p:=fun x=>(decide (65<=(x.toNat:Int)) && decide ((x.toNat:Int)<=90)) || isLet x || isDig x || decide ((x.toNat:Int)=39) || (([32]:Str) == plainS x)) (by decide +kernel) x
 have h5:(decide (65<=(x.toNat:Int)) && decide ((x.toNat:Int)<=90))=false:=by simpa using fun a=>by omega
 simp only [h5,h2,h3,decide_eq_false h4,Bool.false_or] at this;simpa using this
theorem plain_ct (x:UInt8):Cr 254 [u8 x.toNat] (.str (plainS x)):=by
 have hx:x.toNat<256:=UInt8.toNat_lt x;refine .det (De Tryz.func254 [] [] ?_)
 repeat' first|refine S0 ?_;conv=>whnf|exact T0|refine W8 ?_|refine W3 ?_|refine B0 ?_|(refine Br.d (fun h=>?_) fun h=>?_)|refine Br.swap ?_|(refine Bm (fun h=>?_) fun h=>?_)|refine T2 ?_ ?_|refine K0 ?_|(refine M0 (g:=163) (letter_ct _) ?_)|(refine M0 (g:=275) (digit_ct _) ?_)
 ·exact utf8_low x ‹_› ‹_›
 ·exact pl_let x ‹_›
 ·exact pl_dig x ‹_›
 ·exact pl_sp x (by omega) ‹_› ‹_› (by omega)
 ·exact pl_let x ‹_›
 ·exact pl_dig x ‹_›
 ·exact pl_ap x ‹_›
 ·exact pl_sp x (by omega) ‹_› ‹_› ‹_›
end Kx
open Go Sx Go.Proofs
namespace Kx
theorem cc_fn:FnOK Tryz.prog 274:=⟨Tryz.f274,Tryz.func274,by decide,by decide⟩
theorem cc_used (b:Nat) (w:World) (h:w.cell? ⟨b,0,none⟩=some (.pointer (some ⟨b,0,none⟩))):Calls Tryz.prog 274 #[.pointer (some ⟨b,0,none⟩)] w fun e w'=>e = .returned (.tuple #[])/\w' = w :=
 Any.Builder_copyCheck_used ({ Kx.lays156 with }) Kx.Builder_Extra_156.toX72 b w h
theorem cc_fresh (b:Nat) (w:World) (h:w.cell? ⟨b,0,none⟩=some (.pointer none)) (h2:w.shape? b=some (333,2)) (h3:w.frozen? ⟨b,0,none⟩=false):Calls Tryz.prog 274 #[.pointer (some ⟨b,0,none⟩)] w fun e w'=>e = .returned (.tuple #[])/\w' = w.setCell ⟨b,0,none⟩ (.pointer (some ⟨b,0,none⟩)) :=
 Any.Builder_copyCheck_fresh ({ Kx.lays156 with }) Kx.Builder_Extra_156.toX72 b w h h2 h3
theorem plain_len (x:UInt8):(plainS x).length<=2:=by
 have:=all_u8 (p:=fun x=>decide ((plainS x).length<=2)) (by decide +kernel) x;simpa using this
theorem pairAt_snd {s:Str} {i:Nat} (h:pairAt s i=true):i+1<s.length/\128<=(s.getD ((i:Int)+1).toNat 0).toNat/\(s.getD ((i:Int)+1).toNat 0).toNat<=191:=by
 simp only [pairAt,isPair,isSnd,bat,decide_eq_true_eq] at h;rw [show ((i:Int)+1).toNat=i+1 by omega];omega
theorem repl_at (y:UInt8):replL.getD (0+((y.toNat:Int) - 128).toNat*(Γ.get 9).size) []=repl y:=by
 have:0+((y.toNat:Int) - 128).toNat*(Γ.get 9).size=y.toNat - 128:=by
  show 0+((y.toNat:Int) - 128).toNat*1=_
  omega
 exact congrArg (fun k=>replL.getD k []) this
theorem repl_app (o:Str) {t u:Str} (h:t=u):o.length+t.length=(o ++ u).length/\∀ i,i<(o ++ u).length->iteL (i<o.length) (bytesF o i) (bytesF t (i - o.length))=bytesF (o ++ u) i:=by
 subst h;exact bytes_app _ _
theorem fold_ct (s:Str) (hs:s.length<=100000):Cr 222 [.str s] (.tup [.str (foldO s),i64 (foldE s)]):=by
 have hr:=rawL_len s;have hfl:=foldS_len s;have htc:=toks_count (rawL s) [];refine .det (De Tryz.func222 [] [] ?_)
 repeat' first|refine S0 ?_;conv=>whnf|exact T0|refine Br.bnot ?_|(refine Bm (fun h=>?_) fun h=>?_)|refine T2 ?_ ?_|refine K0 ?_|(refine M0 (g:=250) (valid_ct _ (by first | omega | decide | (simp;done) | (simp;omega))) ?_)|(refine M0 (g:=251) (repls_ct) ?_)
 ·refine Lw [] [] (α:=Nat × Str × Bool) (fun z=>[(0,.str s),(4,.loc 0 0),(5,.loc 1 0),(6,i64 z.1)]) (fun z=>[(0,.vec 64 replD),(1,.bld 333 z.2.2 (.own 2)),(2,.arr 5 1 z.2.1.length (bytesF z.2.1))]) 3 (fun z=>z.1<=s.length/\rawL s=z.2.1 ++ rawL (s.drop z.1)) (fun z=>s.length - z.1) ?_ ?_
  ·refine Again.by (0,[],false) ⟨zle _,rfl⟩ ?_
   repeat' first|(exact fun _ _=>⟨rfl,rfl⟩)|refine S0 ?_;conv=>whnf|refine Vo ?_|exact T0|refine Vm ?_ ?_
  ·intro ⟨i,o,u⟩ ⟨h1,h2⟩;dsimp only at h1 h2 ⊢
   have ho:o.length<=200000:=by have:=congrArg List.length h2;simp only [lap] at this;omega
   have hp:pairAt s i=true->i+1<s.length/\128<=(s.getD ((i:Int)+1).toNat 0).toNat/\(s.getD ((i:Int)+1).toNat 0).toNat<=191:=fun h=>pairAt_snd h
   have hA:(toks o).length<=1+o.length:=toks_count o []
   have hB:(joinS [32] (toks o)).length<=o.length:=by
    have:=(join_toksF o [] []).2 rfl;unfold toks;simp at this;omega
   have hF:¬(i:Int)<s.length->joinS [32] (toks o)=foldS s:=fun h=>by
    have:rawL s=o:=by rw [h2,ddl (by omega)];simp [rawL]
    unfold foldS;rw [this]
   have hN:¬1<=o.length->toks []=toks o:=fun h=>by rw [List.length_eq_zero_iff.1 (show o.length=0 by omega)]
   repeat' first|refine S0 ?_;conv=>whnf|refine Vo ?_|exact T0|exact noSh_str _|refine W6 ?_|refine B1 ?_|refine B0 ?_|(refine Vc.om ?_ ?_;focus ((have:=hp ‹_›;omega);done))|(refine Wr.u8 ?_ ?_;focus ((have:=hp ‹_›;omega);done))|(refine Lf.by o ⟨rfl,fun _ _=>rfl⟩ ?_)|(refine M0 (join1_ct (toks o) (by omega) (by omega)) ?_)|(refine M0 (join1_ct (toks []) (by decide) (by decide)) ?_)|(exact (hF ‹_›).trans (if_pos ‹_›).symm)|(exact (congrArg _ (hN ‹_›)).trans ((hF ‹_›).trans (if_pos ‹_›).symm))|(exact (if_pos ‹_›).symm)|(refine Br.d (fun h=>?_) fun h=>?_)|(refine Bm (fun h=>?_) fun h=>?_)|refine T2 ?_ ?_|(refine CallOK.inl (f:=253) (fn:=Tryz.f253) hΓ hm Tryz.func253 [] [] (by kernel_rfl) (fun V=>?_))|(refine CallOK.inl (f:=255) (fn:=Tryz.f255) hΓ hm Tryz.func255 ord255 [] (by kernel_rfl) (fun V=>?_))|(refine CallOK.cc (g:=274) (T:=333) cc_fn cc_used cc_fresh ?_)|refine K0 ?_|(refine M0 (g:=223) (tokens_ct _ (by first | omega | decide | (simp;done) | (simp;omega))) ?_)|(refine M0 (g:=252) (pair_ct _ _ (by omega) (by omega)) ?_)|(refine M0 (g:=254) (plain_ct _) ?_)|refine Vm ?_ ?_
   ·have:=hp ‹_›
    show 0+((s.getD ((i:Int)+1).toNat 0).toNat - (128:Int)).toNat*1<64
    omega
   ·rw [repl_at];have:=(repl_add (s.getD ((i:Int)+1).toNat 0)).2;omega
   ·have:=hp ‹_›
    refine Again.by (i+2,o ++ repl (s.getD ((i:Int)+1).toNat 0),true) ⟨⟨(hp ‹_›).1,by dsimp only;rw [h2,rawL_pair ‹_›,List.append_assoc,show ((i:Int)+1).toNat=i+1 by omega]⟩,by dsimp only;omega⟩ ?_
    repeat' first|(exact fun _ _=>⟨rfl,rfl⟩)|(exact repl_app _ (repl_at _))|refine S0 ?_;conv=>whnf|refine Vo ?_|exact T0|refine Vm ?_ ?_
   ·have:=plain_len (s.getD (i:Int).toNat 0);omega
   ·refine Again.by (i+1,o ++ plainS (s.getD (i:Int).toNat 0),true) ⟨⟨by dsimp only;omega,by dsimp only;rw [h2,rawL_one (by omega) ‹_›,List.append_assoc,tnc]⟩,by dsimp only;omega⟩ ?_
    repeat' first|(exact fun _ _=>⟨rfl,rfl⟩)|(exact bytes_app _ _)|refine S0 ?_;conv=>whnf|refine Vo ?_|exact T0|refine Vm ?_ ?_
 ·simp only [foldO,‹validS s=false›];trivial
 ·simp only [foldE,‹validS s=false›];trivial
end Kx
open Go Sx Go.Proofs
namespace Kx
structure St (s:Str) (i j:Nat) (t:Str):Prop where
 lt:i<j
 le:j<=s.length
 va:validL (s.drop j)=true
 ra:rawL (s.drop i)=t ++ rawL (s.drop j)
 ln:t.length<=2
 ns:∀ x ∈ t,x≠32
end Kx
open Go Sx Go.Proofs
namespace Kx
end Kx
open Go Sx Go.Proofs
namespace Kx
def prs (l:List Pr):D:=.tab 2 l.length fun i=>[.str (pGet l i).1,.str (pGet l i).2]
def pr (p:Pr):D:=.agg [.str p.1,.str p.2]
theorem token_eq (s:Str):letters s=lettersS s:=rfl
theorem nm_token_ct (s:Str):Cr 164 [.str s] (.bool (tkn s)):=by
 refine .det (De Tryz.func164 [] [] ?_)
 repeat' first|refine S0 ?_;conv=>whnf|exact T0|(refine Br.d (fun h=>?_) fun h=>?_)|refine Br.bnot ?_|refine T2 ?_ ?_|refine K0 ?_|(refine M0 (g:=110) (letters_ct _ (by first | omega | decide | (simp;done) | (simp;omega))) ?_)
 ·rw [tkn,decide_eq_true (show s = [] from h)];rfl
 ·rw [tkn,decide_eq_false (show ¬s = [] from ‹_›),decide_eq_true (show s.length<=64 by omega),token_eq];rfl
 ·rw [tkn,decide_eq_false (show ¬s.length<=64 by omega),Bool.and_false];rfl
theorem index_ct (l:List Str) (s:Str) (hl:l.length<=1000000000):Cr 207 [strs l,.str s] (i64 (idxF (fun x=>decide (x=s)) l)):=by
 refine .det (De Tryz.func207 [] [] ?_)
 repeat' first|refine S0 ?_;conv=>whnf
 refine Lw [] [] (α:=Nat) (fun i=>[(0,strs l),(1,.str s),(7,i64 l.length),(8,i64 i)]) (fun i=>[]) 0 (fun i=>i<=l.length/\(l.take i).any (fun x=>decide (x=s))=false) (fun i=>l.length - i) ?_ ?_
 ·refine Again.by 0 ⟨zle _,rfl⟩ ?_
  repeat' first|refine S0 ?_;conv=>whnf|refine Vo ?_|exact T0
 ·intro i ⟨hi,hv⟩
  repeat' first|refine S0 ?_;conv=>whnf|refine Vo ?_|exact T0|refine W6 ?_|(refine Br.d (fun h=>?_) fun h=>?_)|refine T2 ?_ ?_
  all_goals try simp only [tnc] at *
  ·rw [idxF_at (fun x=>decide (x=s)) [] l i (by omega) hv (decide_eq_true h.symm)]
  ·refine Again.by (i+1) ⟨⟨by omega,by rw [any_take _ l [] i (by omega),hv,decide_eq_false (fun e=>h e.symm)];rfl⟩,by omega⟩ ?_
   repeat' first|refine S0 ?_;conv=>whnf|refine Vo ?_|exact T0
  ·rw [idxF_no];rw [show i=l.length by omega,List.take_length] at hv;exact hv
theorem contains_ct (l:List Str) (s:Str) (hl:l.length<=1000000000):Cr 167 [strs l,.str s] (.bool (hasS l s)):=by
 refine .det (De Tryz.func167 [] [] ?_)
 repeat' first|refine S0 ?_;conv=>whnf|exact T0|refine T2 ?_ ?_|refine K0 ?_|(refine M0 (g:=207) (index_ct _ _ (by first | omega | decide | (simp;done) | (simp;omega))) ?_)
 rw [hasS_idx]
theorem from_ct (p:Pr) (s:Str):Cr 206 [pr p,.ref [.str s]] (.bool (decide (p.1=s))):=by
 refine .det (De Tryz.func206 [] [] ?_)
 repeat' first|refine S0 ?_;conv=>whnf|exact T0|refine T2 ?_ ?_
theorem indexf_ct (l:List Pr) (s:Str) (hl:l.length<=1000000000):Cr 166 [prs l,.fn 206 [.ref [.str s]]] (i64 (idxF (fun p:Pr=>decide (p.1=s)) l)):=by
 refine .det (De Tryz.func166 [] [] ?_)
 repeat' first|refine S0 ?_;conv=>whnf
 refine Lw [] [] (α:=Nat) (fun i=>[(0,prs l),(1,.fn 206 [.ref [.str s]]),(7,i64 l.length),(8,i64 i)]) (fun i=>[]) 0 (fun i=>i<=l.length/\(l.take i).any (fun p:Pr=>decide (p.1=s))=false) (fun i=>l.length - i) ?_ ?_
 ·refine Again.by 0 ⟨zle _,rfl⟩ ?_
  repeat' first|refine S0 ?_;conv=>whnf|refine Vo ?_|exact T0|refine Cho.r ?_
 ·intro i ⟨hi,hv⟩
  repeat' first|refine S0 ?_;conv=>whnf|refine Vo ?_|exact T0|refine W6 ?_|(refine M0 (from_ct _ _) ?_)|(refine Br.d (fun h=>?_) fun h=>?_)|refine T2 ?_ ?_|refine K0 ?_
  all_goals try simp only [tnc] at *
  ·rw [idxF_at (fun p:Pr=>decide (p.1=s)) ([],[]) l i (by omega) hv (decide_eq_true h)]
  ·refine Again.by (i+1) ⟨⟨by omega,by rw [any_take _ l ([],[]) i (by omega),hv,show decide ((l.getD i ([],[])).1=s)=false from decide_eq_false h];rfl⟩,by omega⟩ ?_
   repeat' first|refine S0 ?_;conv=>whnf|refine Vo ?_|exact T0|refine Cho.r ?_
  ·rw [idxF_no];rw [show i=l.length by omega,List.take_length] at hv;exact hv
theorem find_ct (l:List Pr) (s:Str) (hl:l.length<=1000000000):Cr 165 [prs l,.str s] (i64 (idxF (fun p:Pr=>decide (p.1=s)) l)):=by
 refine .det (De Tryz.func165 [] [] ?_)
 repeat' first|refine S0 ?_;conv=>whnf|exact T0|exact noSh_int _ _|(refine M0 (indexf_ct l s hl) ?_)|refine T2 ?_ ?_|refine K0 ?_|refine Vm ?_ ?_
end Kx
open Go Sx Go.Proofs
namespace Kx
theorem titles_ct (l:List Str) (hl:l.length<=1000000000):Cr 111 [strs l] (.bool (titlesB l)):=by
 refine .det (De Tryz.func111 [] [] ?_)
 repeat' first|refine S0 ?_;conv=>whnf
 refine Lw [] [] (α:=Nat) (fun i=>[(0,strs l),(5,strs l),(6,i64 l.length),(7,i64 i)]) (fun i=>[]) 0 (fun i=>i<=l.length/\titlesB l=((List.range l.length).drop i).all (tAt l)) (fun i=>l.length - i) ?_ ?_
 ·refine Again.by 0 ⟨zle _,rfl⟩ ?_
  repeat' first|refine S0 ?_;conv=>whnf|refine Vo ?_|exact T0
 ·intro i ⟨hi,hv⟩
  have hst:=fun h:i<l.length=>range_step (tAt l) h
  have e:((i:Int) - 1).toNat=i - 1:=by omega
  repeat' first|refine S0 ?_;conv=>whnf|refine Vo ?_|exact T0|refine W6 ?_|(refine Br.d (fun h=>?_) fun h=>?_)|refine Br.swap ?_|refine Br.bnot ?_|(refine Bm (fun h=>?_) fun h=>?_)|refine T2 ?_ ?_|refine K0 ?_|(refine M0 (g:=164) (nm_token_ct _) ?_)
  all_goals try simp only [tnc,e] at *
  ·refine Again.by (i+1) ⟨⟨by omega,by rw [hv,hst (by omega),show tAt l i=true by simp [-List.getD_eq_getElem?_getD,tAt,less, *],Bool.true_and]⟩,by omega⟩ ?_
   repeat' first|refine S0 ?_;conv=>whnf|refine Vo ?_|exact T0
  ·rw [hv,hst (by omega),show tAt l i=false by simp [-List.getD_eq_getElem?_getD,tAt,less, *];omega];rfl
  ·have h0:i=0:=by omega
   refine Again.by (i+1) ⟨⟨by omega,by rw [hv,hst (by omega),show tAt l i=true by subst h0;simp [-List.getD_eq_getElem?_getD,tAt,less, *],Bool.true_and]⟩,by omega⟩ ?_
   repeat' first|refine S0 ?_;conv=>whnf|refine Vo ?_|exact T0
  ·rw [hv,hst (by omega),show tAt l i=false by simp [-List.getD_eq_getElem?_getD,tAt,less, *]];rfl
  ·rw [hv,show i=l.length by omega,range_end]
theorem npairs_ct (l:List Pr) (hl:l.length<=1000000000):Cr 112 [prs l] (.bool (pairsB l)):=by
 refine .det (De Tryz.func112 ord112 [] ?_)
 repeat' first|refine S0 ?_;conv=>whnf
 refine Lw ord112 [] (α:=Nat) (fun i=>[(0,prs l),(5,prs l),(6,i64 l.length),(7,i64 i)]) (fun i=>[]) 0 (fun i=>i<=l.length/\pairsB l=((List.range l.length).drop i).all (pAt l)) (fun i=>l.length - i) ?_ ?_
 ·refine Again.by 0 ⟨zle _,rfl⟩ ?_
  repeat' first|refine S0 ?_;conv=>whnf|refine Vo ?_|exact T0
 ·intro i ⟨hi,hv⟩
  have hst:=fun h:i<l.length=>range_step (pAt l) h
  have e:((i:Int) - 1).toNat=i - 1:=by omega
  have hf:=find_idx l (pGet l i).2
  repeat' first|refine S0 ?_;conv=>whnf|refine Vo ?_|exact T0|refine W6 ?_|(refine Br.d (fun h=>?_) fun h=>?_)|refine Br.swap ?_|refine Br.bnot ?_|(refine Bm (fun h=>?_) fun h=>?_)|refine T2 ?_ ?_|refine K1 ?_|(refine M0 (g:=164) (nm_token_ct _) ?_)|(refine M0 (g:=165) (find_ct _ _ (by first | omega | decide | (simp;done) | (simp;omega))) ?_)
  all_goals try simp only [tnc,e] at *
  ·rw [hv,hst (by omega),show pAt l i=false by rw [pAt,<-hf,decide_eq_true ‹0<=idxF _ l›];simp];rfl
  ·refine Again.by (i+1) ⟨⟨by omega,by rw [hv,hst (by omega),show pAt l i=true by rw [pAt,<-hf,decide_eq_false ‹¬0<=idxF _ l›];simp [-List.getD_eq_getElem?_getD,less, *],Bool.true_and]⟩,by omega⟩ ?_
   repeat' first|refine S0 ?_;conv=>whnf|refine Vo ?_|exact T0
  ·rw [hv,hst (by omega),show pAt l i=false by (have h0:¬i=0:=by omega);simp [-List.getD_eq_getElem?_getD,pAt,less, *]];rfl
  ·rw [hv,hst (by omega),show pAt l i=false by rw [pAt,<-hf,decide_eq_true ‹0<=idxF _ l›];simp];rfl
  ·have h0:i=0:=by omega
   refine Again.by (i+1) ⟨⟨by omega,by rw [hv,hst (by omega),show pAt l i=true by subst h0;rw [pAt,<-hf,decide_eq_false ‹¬0<=idxF _ l›];simp [-List.getD_eq_getElem?_getD,less, *],Bool.true_and]⟩,by omega⟩ ?_
   repeat' first|refine S0 ?_;conv=>whnf|refine Vo ?_|exact T0
  ·rw [hv,hst (by omega),show pAt l i=false by rw [pAt,h];simp];rfl
  ·rw [hv,hst (by omega),show pAt l i=false by rw [pAt,h];simp];rfl
  ·rw [hv,show i=l.length by omega,range_end]
end Kx
open Go Sx Go.Proofs
namespace Kx
def ruD (r:Ru):D:=.agg [strs r.t,prs r.n,prs r.s]
structure Ru.ok (r:Ru):Prop where
 t:r.t.length<=1000
 n:r.n.length<=1000
 s:r.s.length<=1000
theorem any_idx {α:Type} (p:α->Bool) (l:List α):decide (0<=idxF p l)=l.any p:=by
 have:=idxF_neg p l
 cases h:l.any p with
 | true =>
   refine decide_eq_true (Int.not_lt.1 fun h2=>?_);rw [this.1 h2] at h;cases h
 | false=>have:=this.2 h;exact decide_eq_false (by omega)
theorem dropped_ct (r:Ru) (s:Str) (hr:Ru.ok r):Cr 115 [ruD r,.str s] (.bool (hasS r.t s)):=by
 have h1:=hr.t;refine .det (De Tryz.func115 [] [] ?_)
 repeat' first|refine S0 ?_;conv=>whnf|exact T0|(refine M0 (contains_ct r.t s (by omega)) ?_)|refine T2 ?_ ?_|refine K0 ?_
theorem canon_ct (r:Ru) (s:Str) (hr:Ru.ok r):Cr 224 [ruD r,.str s] (.str (replS r.n s)):=by
 have h1:=hr.n;refine .det (De Tryz.func224 [] [] ?_)
 repeat' first|refine S0 ?_;conv=>whnf|exact T0|(refine M0 (find_ct r.n s (by omega)) ?_)|(refine Br.d (fun h=>?_) fun h=>?_)|refine T2 ?_ ?_|refine K0 ?_|refine Vm ?_ ?_
 ·have:=idxF_find (fun p:Pr=>decide (p.1=s)) ([],[]) r.n ‹_›;omega
 ·rw [replS_at ‹_›]
 ·rw [replS_no (by omega)]
theorem ctitle_ct (p:Pr) (r:Ru) (hr:Ru.ok r):Cr 114 [pr p,.ref [strs r.t,prs r.n,prs r.s]] (.bool (hasS r.t p.2)):=by
 refine .det (De Tryz.func114 [] [] ?_)
 repeat' first|refine S0 ?_;conv=>whnf|exact T0|(refine M0 (dropped_ct r p.2 hr) ?_)|refine T2 ?_ ?_|refine K0 ?_
theorem indexg_ct (l:List Pr) (q:Ru) (hq:Ru.ok q) (hl:l.length<=1000000000):Cr 166 [prs l,.fn 114 [.ref [strs q.t,prs q.n,prs q.s]]] (i64 (idxF (fun p:Pr=>hasS q.t p.2) l)):=by
 refine .det (De Tryz.func166 [] [] ?_)
 repeat' first|refine S0 ?_;conv=>whnf
 refine Lw [] [] (α:=Nat) (fun i=>[(0,prs l),(1,.fn 114 [.ref [strs q.t,prs q.n,prs q.s]]),(7,i64 l.length),(8,i64 i)]) (fun i=>[]) 0 (fun i=>i<=l.length/\(l.take i).any (fun p:Pr=>hasS q.t p.2)=false) (fun i=>l.length - i) ?_ ?_
 ·refine Again.by 0 ⟨zle _,rfl⟩ ?_
  repeat' first|refine S0 ?_;conv=>whnf|refine Vo ?_|exact T0|refine Cho.r ?_
 ·intro i ⟨hi,hv⟩
  repeat' first|refine S0 ?_;conv=>whnf|refine Vo ?_|exact T0|refine W6 ?_|(refine M0 (ctitle_ct _ q hq) ?_)|(refine Br.d (fun h=>?_) fun h=>?_)|(refine Bm (fun h=>?_) fun h=>?_)|refine T2 ?_ ?_|refine K0 ?_
  all_goals try simp only [tnc] at *
  ·rw [idxF_at (fun p:Pr=>hasS q.t p.2) ([],[]) l i (by omega) hv h]
  ·refine Again.by (i+1) ⟨⟨by omega,by rw [any_take _ l ([],[]) i (by omega),hv,show hasS q.t (l.getD i ([],[])).2=false from h];rfl⟩,by omega⟩ ?_
   repeat' first|refine S0 ?_;conv=>whnf|refine Vo ?_|exact T0|refine Cho.r ?_
  ·rw [idxF_no];rw [show i=l.length by omega,List.take_length] at hv;exact hv
theorem containsf_ct (q:Ru) (hq:Ru.ok q):Cr 113 [prs q.n,.fn 114 [.ref [strs q.t,prs q.n,prs q.s]]] (.bool (q.n.any fun p=>hasS q.t p.2)):=by
 have h1:=hq.n;refine .det (De Tryz.func113 [] [] ?_)
 repeat' first|refine S0 ?_;conv=>whnf|exact T0|(refine M0 (indexg_ct q.n q hq (by omega)) ?_)|refine T2 ?_ ?_|refine K0 ?_
 exact any_idx _ _
theorem checkE_big {r:Ru} (h:(32:Int)<r.t.length\/(32:Int)<r.n.length\/(32:Int)<r.s.length):1=checkE r:=by
 rw [checkE,if_neg (by omega)]
theorem checkE_in {r:Ru} (h1:¬(32:Int)<r.t.length) (h2:¬(32:Int)<r.n.length) (h3:¬(32:Int)<r.s.length):checkE r=if (titlesB r.t && pairsB r.n && pairsB r.s && !(r.n.any fun p=>hasS r.t p.2))=true then 0 else 5:=by
 rw [checkE,if_pos (by omega)]
theorem check_ct (r:Ru) (hr:Ru.ok r):Cr 65 [ruD r] (i64 (checkE r)):=by
 have h1:=hr.t;have h2:=hr.n;have h3:=hr.s;refine .det (De Tryz.func65 [] [] ?_)
 repeat' first|refine S0 ?_;conv=>whnf|exact T0|exact noSh_bool _|(refine M0 (containsf_ct r hr) ?_)|(refine M0 (titles_ct r.t (by omega)) ?_)|(refine M0 (npairs_ct r.n (by omega)) ?_)|(refine M0 (npairs_ct r.s (by omega)) ?_)|(refine Br.d (fun h=>?_) fun h=>?_)|refine Br.swap ?_|refine Br.bnot ?_|(refine Bm (fun h=>?_) fun h=>?_)|refine T2 ?_ ?_|refine K0 ?_|refine Vm ?_ ?_
 all_goals first
  | exact checkE_big (by omega)
  | (rw [checkE_in ‹_› ‹_› ‹_›];simp only [*,Bool.and_true,Bool.true_and,Bool.and_false,Bool.false_and,Bool.not_true,Bool.not_false,if_true];done)
  | (rw [checkE_in ‹_› ‹_› ‹_›];simp only [*,Bool.and_true,Bool.true_and,Bool.and_false,Bool.false_and,Bool.not_true,Bool.not_false,if_true];rfl)
end Kx
