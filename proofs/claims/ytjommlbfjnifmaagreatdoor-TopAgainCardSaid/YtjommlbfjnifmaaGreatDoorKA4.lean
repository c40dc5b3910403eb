/-
  Names: their normal forms.
  No condition beyond those written in each theorem.
-/
import Derived.Test.YtjommlbfjnifmaaGreatDoorKA3
import Derived.Test.YtjommlbfjnifmaaGreatDoorFD
set_option linter.unusedSimpArgs false
set_option linter.unusedVariables false
set_option maxRecDepth 4000
open Go Sx Go.Proofs
namespace Kx
theorem lettersS_ct (s:Str) (hs:s.length<=1000000000000):Cr 110 [.str s] (.str (lettersS s)):=letters_ct s hs
theorem tok_len (s:Str):∀ t ∈ toks (foldO s),t.length<=s.length:=fun t ht=>by
 have h2:=join_mem_len ht;rw [(foldO_fixed s).2] at h2;have:=foldO_le s;omega
theorem join_bd (n:Nat):∀ (l:List Str),(∀ t ∈ l,t.length<=n)->(joinS [32] l).length<=(n+1)*l.length
 | [],_=>by simp [joinS]
 | t :: l,h=>by
   have ht:=h t (by simp)
   have:∀ m:List Str,(∀ t ∈ m,t.length<=n)->(tailS [32] m).length<=(n+1)*m.length:=fun m=>by
    induction m with
    | nil=>intro _;simp [tailS]
    | cons u m ih =>
      intro hm;have hu:=hm u (by simp)
      have hi:=ih fun v hv=>hm v (by simp [hv])
      have e:tailS [32] (u :: m)=32 :: (u ++ tailS [32] m):=by simp [tailS]
      rw [e];simp only [List.length_cons,lap,Nat.mul_add,Nat.mul_one];omega
   have h2:=this l fun v hv=>h v (by simp [hv])
   unfold joinS;simp only [List.length_cons,lap,Nat.mul_add,Nat.mul_one];omega
theorem norm_bd {r:Ru} (hr:checkE r=0) {s:Str} (hs:s.length<=10000):(normL r s).length<=10001/\(joinS [32] (normL r s)).length<=1000000000:=by
 have h1:=keepL_len r (toks (foldO s));have h2:(toks (foldO s)).length<=1+(foldO s).length:=toks_count (foldO s) [];have h3:=foldO_le s;have h4:=join_bd (64+s.length) (normL r s) (keep_len hr s)
 have h5:(normL r s).length<=10001:=by unfold normL;omega
 refine ⟨h5,Nat.le_trans h4 ?_⟩
 calc (64+s.length+1)*(normL r s).length<=10065*10001:=Nat.mul_le_mul (by omega) h5
  _<=1000000000:=by decide
theorem normE_c {r:Ru} {s:Str} (h:¬checkE r=0):checkE r=normE r s/\[]=normO r s:=by
 have e:normE r s=checkE r:=by rw [normE,if_neg h]
 exact ⟨e.symm,by rw [normO,e,if_neg h]⟩
theorem normE_f {r:Ru} {s:Str} (h1:checkE r=0) (h:¬foldE s=0):foldE s=normE r s/\[]=normO r s:=by
 have e:normE r s=foldE s:=by rw [normE,if_pos h1,if_neg h]
 exact ⟨e.symm,by rw [normO,e,if_neg h]⟩
theorem normE_big {r:Ru} {s:Str} (h1:checkE r=0) (h2:foldE s=0) (h:(6:Int)<(normL r s).length\/(64:Int)<(joinS [32] (normL r s)).length):1=normE r s/\[]=normO r s:=by
 have e:normE r s=1:=by
  have:normOK r s=false:=by
   unfold normOK
   rcases h with h | h
   ·rw [decide_eq_false (by omega),Bool.false_and]
   ·rw [decide_eq_false (show ¬(joinS [32] (normL r s)).length<=64 by omega),Bool.and_false]
  rw [normE,if_pos h1,if_pos h2,this];rfl
 exact ⟨e.symm,by rw [normO,e];rfl⟩
theorem normE_ok {r:Ru} {s:Str} (h1:checkE r=0) (h2:foldE s=0) (h3:¬(6:Int)<(normL r s).length) (h4:¬(64:Int)<(joinS [32] (normL r s)).length):0=normE r s/\joinS [32] (normL r s)=normO r s:=by
 have e:normE r s=0:=by
  have:normOK r s=true:=by
   unfold normOK;rw [decide_eq_true (by omega),decide_eq_true (show (joinS [32] (normL r s)).length<=64 by omega)];rfl
  rw [normE,if_pos h1,if_pos h2,this];rfl
 exact ⟨e.symm,by rw [normO,e];rfl⟩
theorem norm_ct (r:Ru) (s:Str) (hr:Ru.ok r) (hs:s.length<=10000):Cr 188 [ruD r,.str s] (.tup [.str (normO r s),i64 (normE r s)]):=by
 have hfo:=foldO_le s;have htc:(toks (foldO s)).length<=1+(foldO s).length:=toks_count (foldO s) [];have htl:=tok_len s;refine .det (De Tryz.func188 [] [] ?_)
 repeat' first|refine S0 ?_;conv=>whnf|exact T0|(refine M0 (check_ct r hr) ?_)|(refine Br.d (fun h=>?_) fun h=>?_)|refine Br.bnot ?_|refine T2 ?_ ?_|refine K0 ?_|(refine M0 (g:=222) (fold_ct _ (by first | omega | decide | (simp;done) | (simp;omega))) ?_)|(refine M0 (g:=223) (tokens_ct _ (by first | omega | decide | (simp;done) | (simp;omega))) ?_)
 ·obtain ⟨hb1,hb2⟩:=norm_bd ‹checkE r=0› hs;have hL:normL r s=keepL r (toks (foldO s)):=rfl;generalize hT:toks (foldO s)=T at *;refine Lw [] [] (α:=Nat) (fun i=>[(2,.loc 0 0),(9,.own 2),(27,.own 1),(28,i64 T.length),(29,i64 i)]) (fun i=>[(0,.var [strs r.t,prs r.n,prs r.s]),(1,.arr 9 1 T.length fun i=>[.str (T.getD i [])]),(2,.arr 9 1 (keepL r (T.take i)).length fun j=>[.str ((keepL r (T.take i)).getD j [])])]) 3 (fun i=>i<=T.length) (fun i=>T.length - i) ?_ ?_
  ·refine Again.by 0 (zle _) ?_
   repeat' first|refine S0 ?_;conv=>whnf|refine Vo ?_|exact T0|(rfl)|refine Vm ?_ ?_
  ·intro i hi
   have hx:=fun h:(i:Int)<T.length=>htl (T.getD (i:Int).toNat []) (getD_in (by omega))
   have hkl:=keepL_len r (T.take i);rw [List.length_take] at hkl
   have hst:=fun h:(i:Int)<T.length=>keepL_step r T i (by omega)
   have hend:¬(i:Int)<T.length->keepL r (T.take i)=normL r s:=fun h=>by rw [hL,List.take_of_length_le (by omega)]
   repeat' first|refine S0 ?_;conv=>whnf|refine Vo ?_|refine Vb ?_|refine W6 ?_|(refine M0 (lettersS_ct _ (by have:=hx ‹_›;omega)) ?_)|(refine M0 (dropped_ct r _ hr) ?_)|(refine M0 (canon_ct r _ hr) ?_)|(refine Br.d (fun h=>?_) fun h=>?_)|refine Br.bnot ?_|(refine Bm (fun h=>?_) fun h=>?_)|refine K0 ?_
   all_goals try simp only [tnc] at *
   ·refine Again.by (i+1) ⟨by omega,by omega⟩ ?_
    rw [hst ‹_›,keepL_one,if_pos ‹_›,List.append_nil]
    repeat' first|refine S0 ?_;conv=>whnf|refine Vo ?_|exact T0
   ·refine Again.by (i+1) ⟨by omega,by omega⟩ ?_
    rw [hst ‹_›,keepL_one,if_neg ‹_›,if_pos ‹_›,List.append_nil]
    repeat' first|refine S0 ?_;conv=>whnf|refine Vo ?_|exact T0
   ·refine Again.by (i+1) ⟨by omega,by omega⟩ ?_
    rw [hst ‹_›,keepL_one,if_neg ‹_›,if_neg (by rw [‹hasS _ _=false›];simp)]
    repeat' first|refine S0 ?_;conv=>whnf|refine Vo ?_|exact T0|(exact str_app _ _ rfl)|refine Vm ?_ ?_
   ·rw [hend ‹_›]
    repeat' first|refine S0 ?_;conv=>whnf|exact T0|exact noSh_str _|(refine M0 (join1_ct (normL r s) (by omega) (by omega)) ?_)|(refine Br.d (fun h=>?_) fun h=>?_)|refine Br.swap ?_|refine T2 ?_ ?_|refine Vm ?_ ?_
    all_goals first
     | exact (normE_big ‹checkE r=0› ‹foldE s=0› (by omega)).1
     | exact (normE_big ‹checkE r=0› ‹foldE s=0› (by omega)).2
     | exact (normE_ok ‹checkE r=0› ‹foldE s=0› (by omega) (by omega)).1
     | exact (normE_ok ‹checkE r=0› ‹foldE s=0› (by omega) (by omega)).2
 all_goals first
  | exact (normE_c ‹¬checkE r=0›).1
  | exact (normE_c ‹¬checkE r=0›).2
  | exact (normE_f ‹checkE r=0› ‹¬foldE s=0›).1
  | exact (normE_f ‹checkE r=0› ‹¬foldE s=0›).2
def normB (r:Ru) (s:Str):Bool:=decide (normE r s=0) && decide (normO r s=s)
theorem normal_ct (r:Ru) (s:Str) (hr:Ru.ok r) (hs:s.length<=10000):Cr 189 [ruD r,.str s] (.bool (normB r s)):=by
 refine .det (De Tryz.func189 [] [] ?_)
 repeat' first|refine S0 ?_;conv=>whnf|exact T0|(refine Br.d (fun h=>?_) fun h=>?_)|refine T2 ?_ ?_|refine K0 ?_|(refine M0 (g:=188) (norm_ct _ _ (by assumption) (by first | omega | decide | (simp;done) | (simp;omega))) ?_)
 ·rw [normB,decide_eq_true ‹normE r s=0›,Bool.true_and]
 ·rw [normB,decide_eq_false ‹¬normE r s=0›,Bool.false_and]
end Kx
open Go Sx Go.Proofs
namespace Kx
end Kx
open Go Sx
namespace Kx
def num:Str->Bool
 | []=>false| x :: _=>isDig x
def trim0:Str->Str
 | []=>[]
 | x :: l=>if x=48 then trim0 l else x :: l
def shortS (t:Str):Str:=if num (trim0 t)=true then trim0 t else 48 :: trim0 t
theorem trim0_len:∀ t:Str,(trim0 t).length<=t.length
 | []=>Nat.le_refl _
 | x :: l=>by
   unfold trim0;split
   ·have:=trim0_len l;simp;omega
   ·simp
theorem num_short (t:Str):num (shortS t)=true:=by
 unfold shortS;split
 ·assumption
 ·rfl
theorem short_len (t:Str):(shortS t).length<=t.length+1:=by
 have:=trim0_len t;unfold shortS;split
 ·omega
 ·simp;omega
def mapTo (f:Str->Str) (l:List Str) (i:Nat):List Str:=(l.take i).map f ++ l.drop i
theorem mapTo_zero (f:Str->Str) (l:List Str):mapTo f l 0=l:=by simp [mapTo]
theorem mapTo_end (f:Str->Str) (l:List Str) {i:Nat} (h:l.length<=i):mapTo f l i=l.map f:=by simp [mapTo,List.take_of_length_le h,ddl h]
theorem mapTo_len (f:Str->Str) (l:List Str) (i:Nat):(mapTo f l i).length=l.length:=by simp [mapTo];omega
theorem mapTo_get (f:Str->Str) (l:List Str) {i:Nat} (h:i<l.length):(mapTo f l i).getD i []=l.getD i []:=by
 unfold mapTo;rw [getD_app,if_neg (by simp;omega)];simp only [List.length_map,List.length_take];rw [Nat.min_eq_left (by omega),Nat.sub_self,drop_step l [] i h];rfl
theorem mapTo_step (f:Str->Str) (l:List Str) {i:Nat} (h:i<l.length):mapTo f l (i+1)=(mapTo f l i).set i (f (l.getD i [])):=by
 unfold mapTo;rw [take_step l [] i h,drop_step l [] i h,List.map_append,List.set_append_right _ _ (by simp;omega)];simp [Nat.min_eq_left (Nat.le_of_lt h)]
theorem mapTo_same (f:Str->Str) (l:List Str) {i:Nat} (h:i<l.length) (hf:f (l.getD i [])=l.getD i []):mapTo f l (i+1)=mapTo f l i:=by
 unfold mapTo;rw [take_step l [] i h,drop_step l [] i h,List.map_append];simp only [List.map_cons,List.map_nil,hf,List.append_assoc,List.cons_append,List.nil_append]
def notNum (t:Str):Bool:=!num t
def numbers (l:List Str):List Str:=l.filter num
def others (l:List Str):List Str:=l.filter notNum
def part1 (r:Ru) (t:Str):Str:=if num t=true then shortS t else replS r.s t
def addrL (r:Ru) (l:List Str):List Str:=(others l).map (replS r.s) ++ (numbers l).map shortS
theorem num_low {s:Str} (h:∀ x ∈ s,isLow x=true):num s=false:=by
 match s with
 | []=>rfl
 | x :: l =>
   have:=h x (List.mem_cons_self)
   show isDig x=false
   exact all_u8 (p:=fun x=>!isLow x || !isDig x) (by decide +kernel) x |> fun e=>by rw [this] at e;simpa using e
theorem num_repl {r:Ru} (hr:checkE r=0) {t:Str} (h:num t=false):num (replS r.s t)=false:=by
 rcases replS_mem r.s t with ⟨e,_⟩ | ⟨p,hp,_,e⟩
 ·rw [e];exact h
 ·rw [e];obtain ⟨_,h2,_⟩:=pairs_tkn (checkE_ok hr).2.2.2.1 hp;exact num_low (letters_fix.1 (tkn_of h2).2.2)
theorem num_part {r:Ru} (hr:checkE r=0) (t:Str):num (part1 r t)=num t:=by
 unfold part1;by_cases h:num t=true
 ·rw [if_pos h,h,num_short]
 ·rw [if_neg h]
  have h' : num t=false:=by simpa using h
  rw [h',num_repl hr h']
theorem numbers_map {r:Ru} (hr:checkE r=0):∀ l:List Str,numbers (l.map (part1 r))=(numbers l).map shortS
 | []=>rfl
 | t :: l=>by
   have ih:=numbers_map hr l;unfold numbers at ih ⊢;simp only [List.map_cons,List.filter_cons,num_part hr,ih];split
   ·rw [List.map_cons,part1,if_pos ‹_›]
   ·rfl
theorem others_map {r:Ru} (hr:checkE r=0):∀ l:List Str,others (l.map (part1 r))=(others l).map (replS r.s)
 | []=>rfl
 | t :: l=>by
   have ih:=others_map hr l
   have hn:notNum (part1 r t)=notNum t:=by rw [notNum,num_part hr];rfl
   unfold others at ih ⊢;simp only [List.map_cons,List.filter_cons,hn,ih]
   cases h:notNum t with
   | true =>
     rw [if_pos rfl,if_pos rfl,List.map_cons,part1,if_neg (by simpa [notNum] using h)]
   | false=>rfl
theorem addr_map {r:Ru} (hr:checkE r=0) (l:List Str):others (l.map (part1 r)) ++ numbers (l.map (part1 r))=addrL r l:=by rw [others_map hr,numbers_map hr];rfl
theorem parts_len (l:List Str):(others l).length+(numbers l).length=l.length:=by
 induction l with
 | nil=>rfl
 | cons t l ih =>
   unfold others numbers notNum at *;simp only [List.filter_cons]
   cases num t<;>simp<;>omega
theorem addr_len (r:Ru) (l:List Str):(addrL r l).length=l.length:=by
 have:=parts_len l;simp only [addrL,lap,List.length_map];omega
def addrT (r:Ru) (s:Str):List Str:=addrL r (toks (foldO s))
def addrOK (r:Ru) (s:Str):Bool:=decide ((addrT r s).length<=6) && decide ((joinS [32] (addrT r s)).length<=64)
def addrE (r:Ru) (s:Str):Int:=if checkE r=0 then if foldE s=0 then if addrOK r s=true then 0 else 1 else foldE s else checkE r
def addrO (r:Ru) (s:Str):Str:=if addrE r s=0 then joinS [32] (addrT r s) else []
theorem addrE_c {r:Ru} {s:Str} (h:¬checkE r=0):checkE r=addrE r s/\[]=addrO r s:=by
 have e:addrE r s=checkE r:=by rw [addrE,if_neg h]
 exact ⟨e.symm,by rw [addrO,e,if_neg h]⟩
theorem addrE_f {r:Ru} {s:Str} (h1:checkE r=0) (h:¬foldE s=0):foldE s=addrE r s/\[]=addrO r s:=by
 have e:addrE r s=foldE s:=by rw [addrE,if_pos h1,if_neg h]
 exact ⟨e.symm,by rw [addrO,e,if_neg h]⟩
theorem addrE_big {r:Ru} {s:Str} (h1:checkE r=0) (h2:foldE s=0) (h:(6:Int)<(addrT r s).length\/(64:Int)<(joinS [32] (addrT r s)).length):1=addrE r s/\[]=addrO r s:=by
 have e:addrE r s=1:=by
  have:addrOK r s=false:=by
   unfold addrOK
   rcases h with h | h
   ·rw [decide_eq_false (by omega),Bool.false_and]
   ·rw [decide_eq_false (show ¬(joinS [32] (addrT r s)).length<=64 by omega),Bool.and_false]
  rw [addrE,if_pos h1,if_pos h2,this];rfl
 exact ⟨e.symm,by rw [addrO,e];rfl⟩
theorem addrE_ok {r:Ru} {s:Str} (h1:checkE r=0) (h2:foldE s=0) (h3:¬(6:Int)<(addrT r s).length) (h4:¬(64:Int)<(joinS [32] (addrT r s)).length):0=addrE r s/\joinS [32] (addrT r s)=addrO r s:=by
 have e:addrE r s=0:=by
  have:addrOK r s=true:=by
   unfold addrOK;rw [decide_eq_true (by omega),decide_eq_true (show (joinS [32] (addrT r s)).length<=64 by omega)];rfl
  rw [addrE,if_pos h1,if_pos h2,this];rfl
 exact ⟨e.symm,by rw [addrO,e];rfl⟩
theorem join_bd2 (n:Nat) (l:List Str) (h:∀ t ∈ l,t.length<=n):(joinS [32] l).length<=(n+1)*l.length:=by
 have key:∀ m:List Str,(∀ t ∈ m,t.length<=n)->(tailS [32] m).length<=(n+1)*m.length:=fun m=>by
  induction m with
  | nil=>intro _;simp [tailS]
  | cons u m ih =>
    intro hm;have hu:=hm u (by simp)
    have hi:=ih fun v hv=>hm v (by simp [hv])
    have e:tailS [32] (u :: m)=32 :: (u ++ tailS [32] m):=by simp [tailS]
    rw [e];simp only [List.length_cons,lap,Nat.mul_add,Nat.mul_one];omega
 match l with
 | []=>simp [joinS]
 | t :: l =>
   have ht:=h t (by simp)
   have h2:=key l fun v hv=>h v (by simp [hv])
   unfold joinS;simp only [List.length_cons,lap,Nat.mul_add,Nat.mul_one];omega
theorem repl_len {r:Ru} (hr:checkE r=0) (t:Str):(replS r.s t).length<=64+t.length:=by
 rcases replS_mem r.s t with ⟨e,_⟩ | ⟨p,hp,_,e⟩
 ·rw [e];omega
 ·rw [e];obtain ⟨_,h2,_⟩:=pairs_tkn (checkE_ok hr).2.2.2.1 hp;have:=(tkn_of h2).2.1;omega
theorem addr_bd {r:Ru} (hr:checkE r=0) {s:Str} (hs:s.length<=10000):(addrT r s).length<=10001/\(∀ t ∈ addrT r s,t.length<=64+s.length)/\(joinS [32] (addrT r s)).length<=1000000000:=by
 have h2:(toks (foldO s)).length<=1+(foldO s).length:=toks_count (foldO s) [];have h3:=foldO_le s
 have hm:∀ t ∈ toks (foldO s),t.length<=s.length:=fun t ht=>by
  have:=join_mem_len ht;rw [(foldO_fixed s).2] at this;omega
 have hl:(addrT r s).length<=10001:=by rw [addrT,addr_len];omega
 have ha:∀ t ∈ addrT r s,t.length<=64+s.length:=fun t ht=>by
  simp only [addrT,addrL,others,numbers,List.mem_append,List.mem_map,List.mem_filter] at ht
  rcases ht with ⟨u,⟨hu,_⟩,rfl⟩ | ⟨u,⟨hu,_⟩,rfl⟩
  ·have:=repl_len hr u;have:=hm u hu;omega
  ·have:=short_len u;have:=hm u hu;omega
 have h4:=join_bd2 (64+s.length) _ ha;refine ⟨hl,ha,Nat.le_trans h4 ?_⟩
 calc (64+s.length+1)*(addrT r s).length<=10065*10001:=Nat.mul_le_mul (by omega) hl
  _<=1000000000:=by decide
def addrB (r:Ru) (s:Str):Bool:=decide (addrE r s=0) && decide (addrO r s=s)
def notSp (x:UInt8):Bool:=!decide (x=32)
def codeT (s:Str):Str:=(foldO s).filter notSp
def codeE (s:Str):Int:=if foldE s=0 then if (codeT s).length<=12 then 0 else 1 else foldE s
def codeO (s:Str):Str:=if codeE s=0 then codeT s else []
def codeB (s:Str):Bool:=decide (codeE s=0) && decide (codeO s=s)
theorem joinS_e:∀ l:List Str,joinS [] l=l.flatten
 | []=>rfl
 | t :: l=>by simp [joinS,tailS]
theorem opt_flat (p:Str):(opt p).flatten=p:=by
 unfold opt;split
 ·subst_vars;rfl
 ·simp
theorem toksF_flat:∀ (l p:Str),(toksF p l).flatten=p ++ l.filter notSp
 | [],p=>by rw [toksF_nil,opt_flat];simp
 | x :: l,p=>by
   by_cases h:x=32
   ·subst h;rw [toksF_sp,List.flatten_append,opt_flat,toksF_flat l []];simp [notSp]
   ·have:=toksF_skip [x] l p (fun y hy=>by rw [List.mem_singleton.1 hy];exact h);simp only [List.cons_append,List.nil_append] at this;rw [this,toksF_flat l (p ++ [x])];simp [notSp,h]
theorem code_join (s:Str):joinS [] (toks (foldO s))=codeT s:=by rw [joinS_e,toks,toksF_flat];rfl
theorem code_len (s:Str):(codeT s).length<=s.length:=Nat.le_trans (List.length_filter_le _ _) (foldO_le s)
theorem codeE_f {s:Str} (h:¬foldE s=0):foldE s=codeE s/\[]=codeO s:=by
 have e:codeE s=foldE s:=by rw [codeE,if_neg h]
 exact ⟨e.symm,by rw [codeO,e,if_neg h]⟩
theorem codeE_big {s:Str} (h:foldE s=0) (h2:(12:Int)<(codeT s).length):1=codeE s/\[]=codeO s:=by
 have e:codeE s=1:=by rw [codeE,if_pos h,if_neg (by omega)]
 exact ⟨e.symm,by rw [codeO,e];rfl⟩
theorem codeE_ok {s:Str} (h:foldE s=0) (h2:¬(12:Int)<(codeT s).length):0=codeE s/\codeT s=codeO s:=by
 have e:codeE s=0:=by rw [codeE,if_pos h,if_pos (by omega)]
 exact ⟨e.symm,by rw [codeO,e];rfl⟩
end Kx
open Go Sx Go.Proofs
namespace Kx
theorem num_cons {s:Str} (h:¬s = []):num s=isDig (s.getD 0 0):=by
 match s,h with
 | [],h=>exact absurd rfl h| x :: l,_=>rfl
theorem dig_F1 {x:UInt8} (h1:¬(48:Int)<=x.toNat):isDig x=false:=by simp only [isDig,decide_eq_false h1,Bool.false_and]
theorem ne_len {s:Str} (h:¬s = []):1<=s.length:=by
 match s,h with
 | [],h=>exact absurd rfl h| x :: l,_=>simp
theorem slice1 (z:Str):List.drop (Int.toNat 1) (List.take ((z.length:Int)).toNat z)=z.drop 1:=by simp
theorem trim0_at {z:Str} (hl:0<(z.length:Int)) (h:((z.getD (Int.toNat 0) 0).toNat:Int)=48):trim0 z=trim0 (z.drop 1):=by
 match z,hl,h with
 | x :: l,_,h =>
   have:x=48:=UInt8.toNat_inj.1 (by show x.toNat=48;have:(x.toNat:Int)=48:=h;omega);rw [trim0,if_pos this];rfl
theorem trim0_end {z:Str} (h:¬0<(z.length:Int)\/¬((z.getD (Int.toNat 0) 0).toNat:Int)=48):trim0 z=z:=by
 match z,h with
 | [],_=>rfl
 | x :: l,h =>
   have:¬x=48:=fun e=>by
    rcases h with h | h
    ·simp at h
     try omega
    ·exact h (by rw [e];rfl)
   rw [trim0,if_neg this]
theorem numeral_ct (s:Str):Cr 232 [.str s] (.bool (num s)):=by
 refine .det (De Tryz.func232 [] [] ?_)
 repeat' first|refine S0 ?_;conv=>whnf|exact T0|(refine Vc.om ?_ ?_;focus ((have:=ne_len (s:=s) ‹_›;omega);done))|(refine Br.d (fun h=>?_) fun h=>?_)|refine Br.bnot ?_|refine T2 ?_ ?_
 ·rw [show s = [] from h];rfl
 ·rw [num_cons (s:=s) ‹_›,isDig,decide_eq_true (show (48:Int)<=((s.getD 0 0).toNat:Int) from ‹_›),Bool.true_and];rfl
 ·rw [num_cons (s:=s) ‹_›];exact (dig_F1 ‹_›).symm
theorem tlb_ct (s:Str) (hs:s.length<=1000000000):Cr 281 [.str s,u8 48] (.str (trim0 s)):=by
 refine .det (De Tryz.func281 [] [] ?_)
 repeat' first|refine S0 ?_;conv=>whnf
 refine Lw [] [] (α:=Str) (fun z=>[(0,.str z),(1,u8 48)]) (fun z=>[]) 0 (fun z=>z.length<=s.length/\trim0 s=trim0 z) (fun z=>z.length) ?_ ?_
 ·refine Again.by s ⟨Nat.le_refl _,rfl⟩ ?_
  repeat' first|refine S0 ?_;conv=>whnf|refine Vo ?_|exact T0
 ·intro z ⟨hi,hv⟩
  repeat' first|refine S0 ?_;conv=>whnf|refine Vo ?_|exact T0|(refine Br.d (fun h=>?_) fun h=>?_)|refine T2 ?_ ?_
  ·refine Again.by (List.drop (Int.toNat 1) (List.take ((z.length:Int)).toNat z)) ⟨⟨by rw [slice1,List.length_drop];omega,by rw [slice1,hv,trim0_at ‹_› ‹_›]⟩,by rw [slice1,List.length_drop];omega⟩ ?_
   repeat' first|refine S0 ?_;conv=>whnf|refine Vo ?_|exact T0
  ·rw [hv,trim0_end (.inr ‹_›)]
  ·rw [hv,trim0_end (.inl ‹_›)]
theorem triml_ct (s:Str) (hs:s.length<=1000000000):Cr 265 [.str s,.str [48]] (.str (trim0 s)):=by
 refine .det (De Tryz.func265 [] [] ?_)
 repeat' first|refine S0 ?_;conv=>whnf|refine Vo ?_|exact T0|(refine Br.d (fun h=>?_) fun h=>?_)|refine Br.swap ?_|refine T2 ?_ ?_|refine K0 ?_|(refine M0 (g:=281) (tlb_ct _ (by first | omega | decide | (simp;done) | (simp;omega))) ?_)
 rw [show s = [] from h];rfl
theorem addrshort_ct (s:Str) (hs:s.length<=100000000):Cr 233 [.str s] (.str (shortS s)):=by
 have hl:=trim0_len s;refine .det (De Tryz.func233 [] [] ?_)
 repeat' first|refine S0 ?_;conv=>whnf|exact T0|(refine Vc.om ?_ ?_;focus ((simp only [List.length_cons,lap,List.length_nil];omega);done))|refine Br.bnot ?_|(refine Bm (fun h=>?_) fun h=>?_)|refine T2 ?_ ?_|refine K0 ?_|(refine M0 (g:=232) (numeral_ct _) ?_)|(refine M0 (g:=265) (triml_ct _ (by first | omega | decide | (simp;done) | (simp;omega))) ?_)
 ·rw [shortS,if_pos ‹_›]
 ·rw [shortS,if_neg (by rw [‹num _=false›];simp)];rfl
theorem numbers_step {l:List Str} {i:Nat} (h:i<l.length):numbers (l.take (i+1))=numbers (l.take i) ++ if num (l.getD i [])=true then [l.getD i []] else []:=filter_step num l [] i h
theorem others_step {l:List Str} {i:Nat} (h:i<l.length):others (l.take (i+1))=others (l.take i) ++ if num (l.getD i [])=true then [] else [l.getD i []]:=by
 have:=filter_step notNum l [] i h;rw [others,this];unfold notNum
 cases num (l.getD i [])<;>rfl
theorem noSh_two (e:Nat) (a b:List Str):noSh (.tup [strsO e a,strsO e b]):=⟨fun _ _=>⟨trivial,trivial⟩,fun _ _=>⟨trivial,trivial⟩,trivial⟩
theorem part_ct (l:List Str) (hl:l.length<=1000000):Cr 234 [strs l,.fn 232 []] (.tup [strsO 9 (numbers l),strsO 9 (others l)]):=by
 refine .det (De Tryz.func234 [] [] ?_)
 repeat' first|refine S0 ?_;conv=>whnf
 refine Lw [] [] (α:=Nat) (fun i=>[(1,.fn 232 []),(4,.own 0),(5,.own 1),(8,strs l),(9,i64 l.length),(10,i64 i)]) (fun i=>[(0,.arr 9 1 (numbers (l.take i)).length fun j=>[.str ((numbers (l.take i)).getD j [])]),(1,.arr 9 1 (others (l.take i)).length fun j=>[.str ((others (l.take i)).getD j [])])]) 2 (fun i=>i<=l.length) (fun i=>l.length - i) ?_ ?_
 ·refine Again.by 0 (zle _) ?_
  repeat' first|refine S0 ?_;conv=>whnf|refine Vo ?_|exact T0|refine Cho.r ?_|(rfl)|refine Vm ?_ ?_
 ·intro i hi;have hp:=parts_len (l.take i);rw [List.length_take] at hp
  repeat' first|refine S0 ?_;conv=>whnf|refine Vo ?_|refine Vb ?_|exact T0|refine W6 ?_|(refine M0 (numeral_ct _) ?_)|(refine Br.d (fun h=>?_) fun h=>?_)|(refine Bm (fun h=>?_) fun h=>?_)|refine T2 ?_ ?_|refine K0 ?_
  all_goals try simp only [tnc] at *
  ·refine Again.by (i+1) ⟨by omega,by omega⟩ ?_
   rw [numbers_step (by omega),others_step (by omega),if_pos ‹_›,if_pos ‹_›,List.append_nil]
   repeat' first|refine S0 ?_;conv=>whnf|refine Vo ?_|exact T0|refine Cho.r ?_|(exact str_app _ _ rfl)|refine Vm ?_ ?_
  ·have hn:¬num (l.getD i [])=true:=by rw [‹num _=false›];simp
   refine Again.by (i+1) ⟨by omega,by omega⟩ ?_
   rw [numbers_step (by omega),others_step (by omega),if_neg hn,if_neg hn,List.append_nil]
   repeat' first|refine S0 ?_;conv=>whnf|refine Vo ?_|exact T0|refine Cho.r ?_|(exact str_app _ _ rfl)|refine Vm ?_ ?_
  all_goals exact ⟨by rw [show i=l.length by omega,List.take_length],fun j _=>by rw [show i=l.length by omega,List.take_length]⟩
theorem toks_len (s:Str):(toks s).length<=1+s.length:=toks_count s []
theorem toks_mem_len (s:Str):∀ t ∈ toks s,t.length<=s.length:=fun t ht=>by
 have:=(join_toksF s [] []).2 rfl;have h2:=join_mem_len (show t ∈ toksF [] s from ht);simp at this;omega
theorem code_join_len {s:Str} (hs:s.length<=10000):(joinS [] (toks (foldO s))).length<=1000000000:=by
 rw [code_join];have:=code_len s;omega
theorem code_ct (s:Str) (hs:s.length<=10000):Cr 196 [.str s] (.tup [.str (codeO s),i64 (codeE s)]):=by
 have hfo:=foldO_le s;have h1:=toks_len (foldO s);have h3:=code_join_len hs;refine .det (De Tryz.func196 [] [] ?_)
 repeat' first|refine S0 ?_;conv=>whnf|exact T0|exact noSh_str _|(refine M0 (sjoin_ct (toks (foldO s)) [] (by omega) h3) ?_)|(refine Br.d (fun h=>?_) fun h=>?_)|refine Br.bnot ?_|refine T2 ?_ ?_|refine K0 ?_|(refine M0 (g:=222) (fold_ct _ (by first | omega | decide | (simp;done) | (simp;omega))) ?_)|(refine M0 (g:=223) (tokens_ct _ (by first | omega | decide | (simp;done) | (simp;omega))) ?_)|refine Vm ?_ ?_
 all_goals try rw [code_join] at *
 all_goals first
  | exact (codeE_big ‹foldE s=0› ‹_›).1
  | exact (codeE_big ‹foldE s=0› ‹_›).2
  | exact (codeE_ok ‹foldE s=0› ‹_›).1
  | exact (codeE_ok ‹foldE s=0› ‹_›).2
  | exact (codeE_f ‹¬foldE s=0›).1
  | exact (codeE_f ‹¬foldE s=0›).2
theorem normed_ct (s:Str) (hs:s.length<=10000):Cr 198 [.str s] (.bool (codeB s)):=by
 refine .det (De Tryz.func198 [] [] ?_)
 repeat' first|refine S0 ?_;conv=>whnf|exact T0|(refine Br.d (fun h=>?_) fun h=>?_)|refine T2 ?_ ?_|refine K0 ?_|(refine M0 (g:=196) (code_ct _ (by first | omega | decide | (simp;done) | (simp;omega))) ?_)
 ·rw [codeB,decide_eq_true ‹codeE s=0›,Bool.true_and]
 ·rw [codeB,decide_eq_false ‹¬codeE s=0›,Bool.false_and]
end Kx
open Go Sx Go.Proofs
namespace Kx
theorem fromn_ct (p:Pr) (s:Str):Cr 231 [pr p,.ref [.str s]] (.bool (decide (p.1=s))):=by
 refine .det (De Tryz.func231 [] [] ?_)
 repeat' first|refine S0 ?_;conv=>whnf|exact T0|refine T2 ?_ ?_
theorem indexn_ct (l:List Pr) (s:Str) (hl:l.length<=1000000000):Cr 166 [prs l,.fn 231 [.ref [.str s]]] (i64 (idxF (fun p:Pr=>decide (p.1=s)) l)):=by
 refine .det (De Tryz.func166 [] [] ?_)
 repeat' first|refine S0 ?_;conv=>whnf
 refine Lw [] [] (α:=Nat) (fun i=>[(0,prs l),(1,.fn 231 [.ref [.str s]]),(7,i64 l.length),(8,i64 i)]) (fun i=>[]) 0 (fun i=>i<=l.length/\(l.take i).any (fun p:Pr=>decide (p.1=s))=false) (fun i=>l.length - i) ?_ ?_
 ·refine Again.by 0 ⟨zle _,rfl⟩ ?_
  repeat' first|refine S0 ?_;conv=>whnf|refine Vo ?_|exact T0|refine Cho.r ?_
 ·intro i ⟨hi,hv⟩
  repeat' first|refine S0 ?_;conv=>whnf|refine Vo ?_|exact T0|refine W6 ?_|(refine M0 (fromn_ct _ _) ?_)|(refine Br.d (fun h=>?_) fun h=>?_)|refine T2 ?_ ?_|refine K0 ?_
  all_goals try simp only [tnc] at *
  ·rw [idxF_at (fun p:Pr=>decide (p.1=s)) ([],[]) l i (by omega) hv (decide_eq_true h)]
  ·refine Again.by (i+1) ⟨⟨by omega,by rw [any_take _ l ([],[]) i (by omega),hv,show decide ((l.getD i ([],[])).1=s)=false from decide_eq_false h];rfl⟩,by omega⟩ ?_
   repeat' first|refine S0 ?_;conv=>whnf|refine Vo ?_|exact T0|refine Cho.r ?_
  ·rw [idxF_no];rw [show i=l.length by omega,List.take_length] at hv;exact hv
theorem set_str (l:List Str) (k:Nat) (x:Str) {m:List D} (hm:m = [.str x]):l.length=(l.set k x).length/\∀ i,i<(l.set k x).length->iteL (i=k) m [.str (l.getD i [])] = [.str ((l.set k x).getD i [])] :=
 set_one (fun s:Str=>[D.str s]) [] (fun _ _=>rfl) l k x hm
theorem set_strN {l:List Str} {n:Nat} (hn:l.length=n) (k:Nat) (x:Str) {m:List D} (hm:m = [.str x]):n=n/\∀ i,i<n->iteL (i=k) m [.str (l.getD i [])] = [.str ((l.set k x).getD i [])] :=
 ⟨rfl,fun i hi=>(set_str l k x hm).2 i (by rw [List.length_set];omega)⟩
theorem cat_arg {g:FuncId} {R:D->List D->Prop} (A B:List Str) (H:Ct Tryz.prog g [strs (A ++ B)] R):Ct Tryz.prog g [.tab 1 (A.length+B.length) fun i=>iteL (i<A.length) [.str (A.getD i [])] [.str (B.getD (i - A.length) [])]] R :=
 H.arg ⟨rfl,app_all (fun s:Str=>[D.str s]) [] (fun _ _=>rfl) A B,trivial⟩
theorem anorm_ct (r:Ru) (s:Str) (hr:Ru.ok r) (hs:s.length<=10000):Cr 200 [ruD r,.str s] (.tup [.str (addrO r s),i64 (addrE r s)]):=by
 have hfo:=foldO_le s;have htc:(toks (foldO s)).length<=1+(foldO s).length:=toks_count (foldO s) [];have hsl:=hr.s;refine .det (De Tryz.func200 [] [] ?_)
 repeat' first|refine S0 ?_;conv=>whnf|exact T0|(refine M0 (check_ct r hr) ?_)|(refine Br.d (fun h=>?_) fun h=>?_)|refine Br.bnot ?_|refine T2 ?_ ?_|refine K0 ?_|(refine M0 (g:=222) (fold_ct _ (by first | omega | decide | (simp;done) | (simp;omega))) ?_)|(refine M0 (g:=223) (tokens_ct _ (by first | omega | decide | (simp;done) | (simp;omega))) ?_)
 ·obtain ⟨hb1,hb2,hb3⟩:=addr_bd ‹checkE r=0› hs;have hml:=toks_mem_len (foldO s);have hT:addrL r (toks (foldO s))=addrT r s:=rfl;generalize hTT:toks (foldO s)=T at *;refine Lw [] [] (α:=Nat) (fun i=>[(2,.loc 0 0),(9,.own 1),(31,.own 1),(32,i64 T.length),(33,i64 i)]) (fun i=>[(0,.var [strs r.t,prs r.n,prs r.s]),(1,.arr 9 1 T.length fun j=>[.str ((mapTo (part1 r) T i).getD j [])])]) 2 (fun i=>i<=T.length) (fun i=>T.length - i) ?_ ?_
  ·refine Again.by 0 (zle _) ?_
   rw [mapTo_zero]
   repeat' first|refine S0 ?_;conv=>whnf|refine Vo ?_|exact T0
  ·intro i hi
   have hg:(i:Int)<T.length->(mapTo (part1 r) T i).getD (i:Int).toNat []=T.getD i []:=fun h=>by rw [tnc,mapTo_get _ _ (by omega)]
   have hx:=fun h:(i:Int)<T.length=>hml (T.getD i []) (getD_in (by omega))
   have hlen:=mapTo_len (part1 r) T i
   repeat' first|refine S0 ?_;conv=>whnf|refine Vo ?_|exact noSh_int _ _|refine W6 ?_|(refine M0 (indexn_ct r.s _ (by omega)) ?_)|(refine M0 (addrshort_ct _ (by rw [hg ‹_›];have:=hx ‹_›;omega)) ?_)|(refine Vc.om ?_ ?_;focus ((have:=idxF_find (fun p:Pr=>decide (p.1=(mapTo (part1 r) T i).getD (i:Int).toNat [])) ([],[]) r.s ‹_›;omega);done))|(refine Br.d (fun h=>?_) fun h=>?_)|(refine Bm (fun h=>?_) fun h=>?_)|refine K0 ?_|(refine M0 (g:=232) (numeral_ct _) ?_)|refine Vm ?_ ?_
   ·rw [hg ‹_›] at *
    refine Again.by (i+1) ⟨by omega,by omega⟩ ?_
    rw [mapTo_step _ _ (by omega)]
    have e:shortS (T.getD i [])=part1 r (T.getD i []):=by rw [part1,if_pos ‹_›]
    repeat' first|refine S0 ?_;conv=>whnf|refine Vo ?_|exact T0|(exact set_strN hlen _ _ (congrArg (fun x=>[D.str x]) e))|refine Vm ?_ ?_
   ·rw [hg ‹_›] at *
    have hn:¬num (T.getD i [])=true:=by rw [‹num _=false›];simp
    refine Again.by (i+1) ⟨by omega,by omega⟩ ?_
    rw [mapTo_step _ _ (by omega)]
    have e:(pGet r.s (idxF (fun p:Pr=>decide (p.1=T.getD i [])) r.s).toNat).2=part1 r (T.getD i []):=by rw [part1,if_neg hn,replS_at ‹_›]
    repeat' first|refine S0 ?_;conv=>whnf|refine Vo ?_|exact T0|(exact set_strN hlen _ _ (congrArg (fun x=>[D.str x]) e))|refine Vm ?_ ?_
   ·rw [hg ‹_›] at *
    have hn:¬num (T.getD i [])=true:=by rw [‹num _=false›];simp
    refine Again.by (i+1) ⟨by omega,by omega⟩ ?_
    rw [mapTo_same _ _ (by omega) (by rw [part1,if_neg hn,replS_no (by omega)])]
    repeat' first|refine S0 ?_;conv=>whnf|refine Vo ?_|exact T0
   ·have hA:others (T.map (part1 r)) ++ numbers (T.map (part1 r))=addrT r s:=by rw [addr_map ‹checkE r=0›,hT]
    have hLl:(T.map (part1 r)).length=T.length:=by simp
    rw [mapTo_end _ _ (by omega),<-hLl];generalize T.map (part1 r)=L at *;have hp:=parts_len L
    have hAl:(addrT r s).length=L.length:=by rw [<-hA,lap,hp]
    repeat' first|refine S0 ?_;conv=>whnf|refine Vb ?_|exact T0|exact noSh_str _|(exact noSh_two _ _ _)|(refine M0 (cat_arg _ _ (join1_ct (others L ++ numbers L) (by rw [hA];omega) (by rw [hA];omega))) ?_)|(refine Br.d (fun h=>?_) fun h=>?_)|refine Br.swap ?_|refine T2 ?_ ?_|refine K0 ?_|(refine M0 (g:=234) (part_ct _ (by first | omega | decide | (simp;done) | (simp;omega))) ?_)|refine Vm ?_ ?_
    all_goals rw [hA] at *
    all_goals first
     | exact (addrE_big ‹checkE r=0› ‹foldE s=0› (by omega)).1
     | exact (addrE_big ‹checkE r=0› ‹foldE s=0› (by omega)).2
     | exact (addrE_ok ‹checkE r=0› ‹foldE s=0› (by omega) (by omega)).1
     | exact (addrE_ok ‹checkE r=0› ‹foldE s=0› (by omega) (by omega)).2
 all_goals first
  | exact (addrE_c ‹¬checkE r=0›).1
  | exact (addrE_c ‹¬checkE r=0›).2
  | exact (addrE_f ‹checkE r=0› ‹¬foldE s=0›).1
  | exact (addrE_f ‹checkE r=0› ‹¬foldE s=0›).2
theorem anormal_ct (r:Ru) (s:Str) (hr:Ru.ok r) (hs:s.length<=10000):Cr 201 [ruD r,.str s] (.bool (addrB r s)):=by
 refine .det (De Tryz.func201 [] [] ?_)
 repeat' first|refine S0 ?_;conv=>whnf|exact T0|(refine Br.d (fun h=>?_) fun h=>?_)|refine T2 ?_ ?_|refine K0 ?_|(refine M0 (g:=200) (anorm_ct _ _ (by assumption) (by first | omega | decide | (simp;done) | (simp;omega))) ?_)
 ·rw [addrB,decide_eq_true ‹addrE r s=0›,Bool.true_and]
 ·rw [addrB,decide_eq_false ‹¬addrE r s=0›,Bool.false_and]
end Kx
open Go Sx Go.Proofs
namespace Kx
end Kx
