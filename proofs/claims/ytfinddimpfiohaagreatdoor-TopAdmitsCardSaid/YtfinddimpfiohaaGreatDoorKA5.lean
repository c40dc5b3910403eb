/-
  The deck: rules.
  No condition beyond those written in each theorem.
-/
import Derived.Test.YtfinddimpfiohaaGreatDoorKA4
import Derived.Test.YtfinddimpfiohaaGreatDoorFD
set_option linter.unusedSimpArgs false
set_option linter.unusedVariables false
set_option maxRecDepth 4000
open Go Sx Go.Proofs
namespace Kx
def rT:List Str:=[[100,114],[118,97,110]]
def rN:List Pr:=[([97,110,110,97],[97,110,110]),([98,111,98],[114,111,98,101,114,116])]
def rS:List Pr:=[([114,100],[114,111,97,100]),([115,116],[115,116,114,101,101,116])]
structure RuD (r:Ru):Prop where
 t:r.t = []\/r.t=rT
 n:r.n = []\/r.n=rN
 s:r.s = []\/r.s=rS
theorem RuD.ok {r:Ru} (h:RuD r):Ru.ok r:=by
 obtain ⟨h1,h2,h3⟩:=h;exact ⟨by rcases h1 with e | e<;>rw [e]<;>decide,by rcases h2 with e | e<;>rw [e]<;>decide,by rcases h3 with e | e<;>rw [e]<;>decide⟩
theorem RuD.two {r:Ru} (h:RuD r):r.t.length<=2/\r.n.length<=2/\r.s.length<=2:=by
 obtain ⟨h1,h2,h3⟩:=h;exact ⟨by rcases h1 with e | e<;>rw [e]<;>decide,by rcases h2 with e | e<;>rw [e]<;>decide,by rcases h3 with e | e<;>rw [e]<;>decide⟩
theorem selC_pr (l:List Pr):∀ i,i<l.length->selC (l.map fun p=>[D.str p.1,D.str p.2]) i = [.str (pGet l i).1,.str (pGet l i).2]:=selC_get (fun p:Pr=>[D.str p.1,D.str p.2]) ([],[]) (fun _ _=>rfl) l
theorem rules_ct (d:Dk):Ct Tryz.prog 22 [d.b] fun q outs=>∃ r d',RuD r/\q=ruD r/\outs = [Dk.b d']:=by
 refine .some2 (De Tryz.func22 [] [] ?_)
 repeat' first|refine S0 ?_;conv=>whnf|(refine Bm (fun h=>?_) fun h=>?_)|(refine CallOK.io1 (g:=8) (Step.out ?_))|(refine Met.by (g:=8) (one_ct _ _) ?_;rintro q outs ⟨x,d,hx,rfl,rfl⟩)
 ·refine Lf2.by ⟨rT,rN,rS⟩ d ⟨.inr rfl,.inr rfl,.inr rfl⟩ ?_
  repeat' first|(exact ⟨rfl,selC_str rT⟩)|(exact ⟨rfl,selC_pr rN⟩)|(exact ⟨rfl,selC_pr rS⟩)|refine S0 ?_;conv=>whnf|exact T0|exact T1|refine T2 ?_ ?_
 ·refine Lf2.by ⟨rT,rN,[]⟩ d ⟨.inr rfl,.inr rfl,.inl rfl⟩ ?_
  repeat' first|(exact ⟨rfl,selC_str rT⟩)|(exact ⟨rfl,selC_pr rN⟩)|refine S0 ?_;conv=>whnf|exact T0|exact T1|refine T2 ?_ ?_
 ·refine Lf2.by ⟨rT,[],rS⟩ d ⟨.inr rfl,.inl rfl,.inr rfl⟩ ?_
  repeat' first|(exact ⟨rfl,selC_str rT⟩)|(exact ⟨rfl,selC_pr rS⟩)|refine S0 ?_;conv=>whnf|exact T0|exact T1|refine T2 ?_ ?_
 ·refine Lf2.by ⟨rT,[],[]⟩ d ⟨.inr rfl,.inl rfl,.inl rfl⟩ ?_
  repeat' first|(exact ⟨rfl,selC_str rT⟩)|refine S0 ?_;conv=>whnf|exact T0|exact T1|refine T2 ?_ ?_
 ·refine Lf2.by ⟨[],rN,rS⟩ d ⟨.inl rfl,.inr rfl,.inr rfl⟩ ?_
  repeat' first|(exact ⟨rfl,selC_pr rN⟩)|(exact ⟨rfl,selC_pr rS⟩)|refine S0 ?_;conv=>whnf|exact T0|exact T1|refine T2 ?_ ?_
 ·refine Lf2.by ⟨[],rN,[]⟩ d ⟨.inl rfl,.inr rfl,.inl rfl⟩ ?_
  repeat' first|(exact ⟨rfl,selC_pr rN⟩)|refine S0 ?_;conv=>whnf|exact T0|exact T1|refine T2 ?_ ?_
 ·refine Lf2.by ⟨[],[],rS⟩ d ⟨.inl rfl,.inl rfl,.inr rfl⟩ ?_
  repeat' first|(exact ⟨rfl,selC_pr rS⟩)|refine S0 ?_;conv=>whnf|exact T0|exact T1|refine T2 ?_ ?_
 ·refine Lf2.by ⟨[],[],[]⟩ d ⟨.inl rfl,.inl rfl,.inl rfl⟩ ?_
  repeat' first|refine S0 ?_;conv=>whnf|exact T0|exact T1|refine T2 ?_ ?_
end Kx
open Go Sx Go.Proofs
namespace Kx
end Kx
open Go Sx Go.Proofs
namespace Kx
end Kx
open Go Sx Go.Proofs
namespace Kx
end Kx
open Go Sx Go.Proofs
namespace Kx
theorem dr_endP {s o a:Str} {i:Nat} (hi:i<=s.length) (hn:¬(i:Int)<s.length) (h2:o.length<=2*i+1) (h3:foldedC s->DrI (s.take i) o) (ha1:a.length<=1) (ha2:endB a=true):(o ++ a).length<=2*s.length+2/\(foldedC s->(∀ y ∈ o ++ a,isPrn y=true)/\toks ((o ++ a).flatMap plainS)=toks s):=by
 refine ⟨by simp only [lap];omega,fun hf=>?_⟩
 have hp:∀ y ∈ o ++ a,isPrn y=true:=fun y hy=>by
  rcases List.mem_append.1 hy with hy | hy
  ·exact (h3 hf).prn y hy
  ·simp only [endB,bat,List.all_eq_true] at ha2;exact ha2.1 y hy
 have:=((h3 hf).done ha2).2;rw [(rawL_prn _ hp).2,show i=s.length by omega,List.take_length] at this;exact ⟨hp,this⟩
theorem dressP_ct (d:Dk) (s:Str) (hs:s.length<=100000):Ct Tryz.prog 162 [d.b,.str s] fun r outs=>∃ x d',(x.length<=2*s.length+2/\(foldedC s->(∀ y ∈ x,isPrn y=true)/\toks (x.flatMap plainS)=toks s))/\r = .str x/\outs = [Dk.b d']:=by
 refine .some2 (De Tryz.func162 [] [] ?_)
 repeat' first|refine S0 ?_;conv=>whnf|(refine Met.by (picksP_ct (fun s=>s.length<=1/\endB s=true) _ [[],[],[32],[45]] (by decide +kernel) (by first | omega | decide | (simp;done) | (simp;omega)) (by first | omega | decide | (simp;done) | (simp;omega))) ?_;rintro q outs ⟨o,d,⟨ho1,ho2⟩,rfl,rfl⟩)|(refine CallOK.io1F (g:=161) (Step.out ?_))
 refine Lw [] [] (α:=Dk × Nat × Str) (fun z=>[(0,.loc 0 0),(1,.str s),(5,.str z.2.2),(6,i64 z.2.1)]) (fun z=>[(0,.var z.1.ls)]) 1 (fun z=>z.2.1<=s.length/\z.2.2.length<=2*z.2.1+1/\(foldedC s->DrI (s.take z.2.1) z.2.2)) (fun z=>s.length - z.2.1) ?_ ?_
 ·refine Again.by (d,0,o) ⟨zle _,by dsimp only;omega,fun _=>DrI.start ho2⟩ ?_
  repeat' first|refine S0 ?_;conv=>whnf|refine Vo ?_|refine Vb ?_|exact T0
 ·intro ⟨d,i,o⟩ ⟨h1,h2,h3⟩;dsimp only at h1 h2 h3 ⊢
  repeat' first|refine S0 ?_;conv=>whnf|refine Vo ?_|refine Vb ?_|exact T0|refine W6 ?_|refine W8 ?_|(refine Met.by (picksP_ct (fun s=>s.length<=2/\sepB s=true) _ [[32],[45],[44,32],[46],[32,32],[47]] (by decide +kernel) (by first | omega | decide | (simp;done) | (simp;omega)) (by first | omega | decide | (simp;done) | (simp;omega))) ?_;rintro q outs ⟨a,d,⟨ha1,ha2⟩,rfl,rfl⟩)|(refine Met.by (picksP_ct (fun s=>s.length<=1/\endB s=true) _ [[],[],[32],[46]] (by decide +kernel) (by first | omega | decide | (simp;done) | (simp;omega)) (by first | omega | decide | (simp;done) | (simp;omega))) ?_;rintro q outs ⟨a,d,⟨ha1,ha2⟩,rfl,rfl⟩)|(refine Lf.by [(s.getD (i:Int).toNat 0) - 32] ⟨rfl,one_dn ‹_› ‹_›⟩ ?_)|(refine Lf.by [(s.getD (i:Int).toNat 0)] ⟨rfl,one_by _⟩ ?_)|(refine Vc.om ?_ ?_;focus ((simp only [lap,List.length_cons,List.length_nil];omega);done))|(refine Again.by (d,i+1,o ++ a) (dr_sep (by omega) (by omega) h2 h3 ha1 ha2) ?_)|(refine Br.d (fun h=>?_) fun h=>?_)|refine Br.bnot ?_|(refine Bm (fun h=>?_) fun h=>?_)|(refine CallOK.io1 (g:=8) (Step.out ?_))|(refine CallOK.io1F (g:=161) (Step.out ?_))|(refine Met.by (g:=8) (one_ct _ _) ?_;rintro q outs ⟨x,d,hx,rfl,rfl⟩)
  all_goals try (first
   | (refine Again.by (d,i+1,o ++ [(s.getD (i:Int).toNat 0) - 32]) (dr_ch ((s.getD (i:Int).toNat 0) - 32) (by omega) (fun _=>⟨(low_up (s.getD (i:Int).toNat 0) (by omega) (by omega)).1,(low_up (s.getD (i:Int).toNat 0) (by omega) (by omega)).2.1⟩) h2 h3).1 ?_;((try dsimp only);repeat' first | (refine Step.mk ?_;conv=>whnf) | (refine Vc.om ?_ ?_;first | omega | with_reducible rfl | with_reducible exact same_rfl) | with_reducible trivial | with_reducible rfl);done)
   | (refine Again.by (d,i+1,o ++ [(s.getD (i:Int).toNat 0) - 32] ++ [39]) (dr_ch ((s.getD (i:Int).toNat 0) - 32) (by omega) (fun _=>⟨(low_up (s.getD (i:Int).toNat 0) (by omega) (by omega)).1,(low_up (s.getD (i:Int).toNat 0) (by omega) (by omega)).2.1⟩) h2 h3).2 ?_;((try dsimp only);repeat' first | (refine Step.mk ?_;conv=>whnf) | (refine Vc.om ?_ ?_;first | omega | with_reducible rfl | with_reducible exact same_rfl) | with_reducible trivial | with_reducible rfl);done)
   | (refine Again.by (d,i+1,o ++ [(s.getD (i:Int).toNat 0)]) (dr_ch (s.getD (i:Int).toNat 0) (by omega) (plain_an (s.getD (i:Int).toNat 0)) h2 h3).1 ?_;((try dsimp only);repeat' first | (refine Step.mk ?_;conv=>whnf) | (refine Vc.om ?_ ?_;first | omega | with_reducible rfl | with_reducible exact same_rfl) | with_reducible trivial | with_reducible rfl);done)
   | (refine Again.by (d,i+1,o ++ [(s.getD (i:Int).toNat 0)] ++ [39]) (dr_ch (s.getD (i:Int).toNat 0) (by omega) (plain_an (s.getD (i:Int).toNat 0)) h2 h3).2 ?_;((try dsimp only);repeat' first | (refine Step.mk ?_;conv=>whnf) | (refine Vc.om ?_ ?_;first | omega | with_reducible rfl | with_reducible exact same_rfl) | with_reducible trivial | with_reducible rfl);done))
  ·refine Lf2.by (o ++ a) d (dr_endP h1 ‹_› h2 h3 ha1 ha2) ?_
   repeat' first|refine S0 ?_;conv=>whnf|exact T0|exact T1|refine T2 ?_ ?_
structure Rich (r:Ru) (T:List Str) (w:Str):Prop where
 prn:∀ y ∈ w,isPrn y=true
 kp:keepL r (toks (w.flatMap plainS))=keepL r T
def pickB (u:Str):Bool:=u.all isPrn && (match u.flatMap plainS with
 | []=>true
 | y :: v=>decide (y=32) && (toks v).all fun t=>decide (lettersS t = []))
theorem keep_none {r:Ru}:∀ {l:List Str},(l.all fun t=>decide (lettersS t = []))=true->keepL r l = []
 | [],_=>rfl
 | t :: l,h=>by
   simp only [List.all_cons,bat,decide_eq_true_eq] at h;have e:keepL r (t :: l)=keepL r [t] ++ keepL r l:=keepL_app r [t] l;rw [e,keepL_one,if_pos h.1,keep_none h.2];rfl
theorem Rich.pick {r:Ru} {T:List Str} {w u:Str} (H:Rich r T w) (h:pickB u=true):Rich r T (w ++ u):=by
 simp only [pickB,bat,List.all_eq_true] at h;refine ⟨fun y hy=>(List.mem_append.1 hy).elim (H.prn y) (h.1 y),?_⟩;rw [List.flatMap_append];have h2:=h.2;split at h2
 ·rename_i e;rw [e,List.append_nil];exact H.kp
 ·rename_i y v e;simp only [bat,decide_eq_true_eq] at h2;rw [e,h2.1];unfold toks;rw [toks_sp2,keepL_app];have:=H.kp;unfold toks at this;rw [this,keep_none h2.2,List.append_nil]
end Kx
open Go Sx
namespace Kx
def num:Str->Bool
 | []=>false| x :: _=>isDig x
def trim0:Str->Str
 | []=>[]
 | x :: l=>if x=48 then trim0 l else x :: l
def shortS (t:Str):Str:=if num (trim0 t)=true then trim0 t else 48 :: trim0 t
theorem trim0_len:∀ t:Str,(trim0 t).length<=t.length
 | []=>Nat.le_refl _
 | x :: l=>by
   unfold trim0;split
   ·have:=trim0_len l;simp;omega
   ·simp
theorem num_short (t:Str):num (shortS t)=true:=by
 unfold shortS;split
 ·assumption
 ·rfl
theorem short_len (t:Str):(shortS t).length<=t.length+1:=by
 have:=trim0_len t;unfold shortS;split
 ·omega
 ·simp;omega
theorem short_step {s:Str} (h:s.getD 0 0=48) (hl:1<s.length) (h2:num (s.drop 1)=true):shortS s=shortS (s.drop 1):=by
 match s,h with
 | x :: l,h =>
   simp only [List.getD_cons_zero] at h;subst h
   have e:trim0 (48 :: l)=trim0 l:=by rw [trim0,if_pos rfl]
   rw [shortS,e];rfl
theorem short_fix {s:Str} (h:num s=true) (h2:s.length<=1\/s.getD 0 0≠48\/num (s.drop 1)=false):shortS s=s:=by
 match s with
 | []=>cases h
 | x :: l =>
   by_cases hx:x=48
   ·subst hx
    have e:trim0 (48 :: l)=trim0 l:=by rw [trim0,if_pos rfl]
    have hl:num l=false:=by
     rcases h2 with h2 | h2 | h2
     ·match l,h2 with
      | [],_=>rfl
     ·exact absurd rfl h2
     ·exact h2
    have:trim0 l=l:=by
     match l,hl with
     | [],_=>rfl
     | y :: u,hl =>
       have:y≠48:=fun e=>by subst e;exact absurd (show isDig 48=false from hl) (by decide)
       rw [trim0,if_neg this]
    rw [shortS,e,this,if_neg (by rw [hl];simp)]
   ·have e:trim0 (x :: l)=x :: l:=by rw [trim0,if_neg hx]
    rw [shortS,e,if_pos h]
def mapTo (f:Str->Str) (l:List Str) (i:Nat):List Str:=(l.take i).map f ++ l.drop i
theorem mapTo_zero (f:Str->Str) (l:List Str):mapTo f l 0=l:=by simp [mapTo]
theorem mapTo_end (f:Str->Str) (l:List Str) {i:Nat} (h:l.length<=i):mapTo f l i=l.map f:=by simp [mapTo,List.take_of_length_le h,ddl h]
theorem mapTo_len (f:Str->Str) (l:List Str) (i:Nat):(mapTo f l i).length=l.length:=by simp [mapTo];omega
theorem mapTo_get (f:Str->Str) (l:List Str) {i:Nat} (h:i<l.length):(mapTo f l i).getD i []=l.getD i []:=by
 unfold mapTo;rw [getD_app,if_neg (by simp;omega)];simp only [List.length_map,List.length_take];rw [Nat.min_eq_left (by omega),Nat.sub_self,drop_step l [] i h];rfl
theorem mapTo_step (f:Str->Str) (l:List Str) {i:Nat} (h:i<l.length):mapTo f l (i+1)=(mapTo f l i).set i (f (l.getD i [])):=by
 unfold mapTo;rw [take_step l [] i h,drop_step l [] i h,List.map_append,List.set_append_right _ _ (by simp;omega)];simp [Nat.min_eq_left (Nat.le_of_lt h)]
theorem mapTo_same (f:Str->Str) (l:List Str) {i:Nat} (h:i<l.length) (hf:f (l.getD i [])=l.getD i []):mapTo f l (i+1)=mapTo f l i:=by
 unfold mapTo;rw [take_step l [] i h,drop_step l [] i h,List.map_append];simp only [List.map_cons,List.map_nil,hf,List.append_assoc,List.cons_append,List.nil_append]
def notNum (t:Str):Bool:=!num t
def numbers (l:List Str):List Str:=l.filter num
def others (l:List Str):List Str:=l.filter notNum
def part1 (r:Ru) (t:Str):Str:=if num t=true then shortS t else replS r.s t
def addrL (r:Ru) (l:List Str):List Str:=(others l).map (replS r.s) ++ (numbers l).map shortS
theorem num_low {s:Str} (h:∀ x ∈ s,isLow x=true):num s=false:=by
 match s with
 | []=>rfl
 | x :: l =>
   have:=h x (List.mem_cons_self)
   show isDig x=false
   exact all_u8 (p:=fun x=>!isLow x || !isDig x) (by decide +kernel) x |> fun e=>by rw [this] at e;simpa using e
theorem num_repl {r:Ru} (hr:checkE r=0) {t:Str} (h:num t=false):num (replS r.s t)=false:=by
 rcases replS_mem r.s t with ⟨e,_⟩ | ⟨p,hp,_,e⟩
 ·rw [e];exact h
 ·rw [e];obtain ⟨_,h2,_⟩:=pairs_tkn (checkE_ok hr).2.2.2.1 hp;exact num_low (letters_fix.1 (tkn_of h2).2.2)
theorem num_part {r:Ru} (hr:checkE r=0) (t:Str):num (part1 r t)=num t:=by
 unfold part1;by_cases h:num t=true
 ·rw [if_pos h,h,num_short]
 ·rw [if_neg h]
  have h' : num t=false:=by simpa using h
  rw [h',num_repl hr h']
theorem numbers_map {r:Ru} (hr:checkE r=0):∀ l:List Str,numbers (l.map (part1 r))=(numbers l).map shortS
 | []=>rfl
 | t :: l=>by
   have ih:=numbers_map hr l;unfold numbers at ih ⊢;simp only [List.map_cons,List.filter_cons,num_part hr,ih];split
   ·rw [List.map_cons,part1,if_pos ‹_›]
   ·rfl
theorem others_map {r:Ru} (hr:checkE r=0):∀ l:List Str,others (l.map (part1 r))=(others l).map (replS r.s)
 | []=>rfl
 | t :: l=>by
   have ih:=others_map hr l
   have hn:notNum (part1 r t)=notNum t:=by rw [notNum,num_part hr];rfl
   unfold others at ih ⊢;simp only [List.map_cons,List.filter_cons,hn,ih]
   cases h:notNum t with
   | true =>
     rw [if_pos rfl,if_pos rfl,List.map_cons,part1,if_neg (by simpa [notNum] using h)]
   | false=>rfl
theorem addr_map {r:Ru} (hr:checkE r=0) (l:List Str):others (l.map (part1 r)) ++ numbers (l.map (part1 r))=addrL r l:=by rw [others_map hr,numbers_map hr];rfl
theorem parts_len (l:List Str):(others l).length+(numbers l).length=l.length:=by
 induction l with
 | nil=>rfl
 | cons t l ih =>
   unfold others numbers notNum at *;simp only [List.filter_cons]
   cases num t<;>simp<;>omega
theorem addr_len (r:Ru) (l:List Str):(addrL r l).length=l.length:=by
 have:=parts_len l;simp only [addrL,lap,List.length_map];omega
def addrT (r:Ru) (s:Str):List Str:=addrL r (toks (foldO s))
def addrOK (r:Ru) (s:Str):Bool:=decide ((addrT r s).length<=6) && decide ((joinS [32] (addrT r s)).length<=64)
def addrE (r:Ru) (s:Str):Int:=if checkE r=0 then if foldE s=0 then if addrOK r s=true then 0 else 1 else foldE s else checkE r
def addrO (r:Ru) (s:Str):Str:=if addrE r s=0 then joinS [32] (addrT r s) else []
theorem addrE_c {r:Ru} {s:Str} (h:¬checkE r=0):checkE r=addrE r s/\[]=addrO r s:=by
 have e:addrE r s=checkE r:=by rw [addrE,if_neg h]
 exact ⟨e.symm,by rw [addrO,e,if_neg h]⟩
theorem addrE_f {r:Ru} {s:Str} (h1:checkE r=0) (h:¬foldE s=0):foldE s=addrE r s/\[]=addrO r s:=by
 have e:addrE r s=foldE s:=by rw [addrE,if_pos h1,if_neg h]
 exact ⟨e.symm,by rw [addrO,e,if_neg h]⟩
theorem addrE_big {r:Ru} {s:Str} (h1:checkE r=0) (h2:foldE s=0) (h:(6:Int)<(addrT r s).length\/(64:Int)<(joinS [32] (addrT r s)).length):1=addrE r s/\[]=addrO r s:=by
 have e:addrE r s=1:=by
  have:addrOK r s=false:=by
   unfold addrOK
   rcases h with h | h
   ·rw [decide_eq_false (by omega),Bool.false_and]
   ·rw [decide_eq_false (show ¬(joinS [32] (addrT r s)).length<=64 by omega),Bool.and_false]
  rw [addrE,if_pos h1,if_pos h2,this];rfl
 exact ⟨e.symm,by rw [addrO,e];rfl⟩
theorem addrE_ok {r:Ru} {s:Str} (h1:checkE r=0) (h2:foldE s=0) (h3:¬(6:Int)<(addrT r s).length) (h4:¬(64:Int)<(joinS [32] (addrT r s)).length):0=addrE r s/\joinS [32] (addrT r s)=addrO r s:=by
 have e:addrE r s=0:=by
  have:addrOK r s=true:=by
   unfold addrOK;rw [decide_eq_true (by omega),decide_eq_true (show (joinS [32] (addrT r s)).length<=64 by omega)];rfl
  rw [addrE,if_pos h1,if_pos h2,this];rfl
 exact ⟨e.symm,by rw [addrO,e];rfl⟩
theorem join_bd2 (n:Nat) (l:List Str) (h:∀ t ∈ l,t.length<=n):(joinS [32] l).length<=(n+1)*l.length:=by
 have key:∀ m:List Str,(∀ t ∈ m,t.length<=n)->(tailS [32] m).length<=(n+1)*m.length:=fun m=>by
  induction m with
  | nil=>intro _;simp [tailS]
  | cons u m ih =>
    intro hm;have hu:=hm u (by simp)
    have hi:=ih fun v hv=>hm v (by simp [hv])
    have e:tailS [32] (u :: m)=32 :: (u ++ tailS [32] m):=by simp [tailS]
    rw [e];simp only [List.length_cons,lap,Nat.mul_add,Nat.mul_one];omega
 match l with
 | []=>simp [joinS]
 | t :: l =>
   have ht:=h t (by simp)
   have h2:=key l fun v hv=>h v (by simp [hv])
   unfold joinS;simp only [List.length_cons,lap,Nat.mul_add,Nat.mul_one];omega
theorem repl_len {r:Ru} (hr:checkE r=0) (t:Str):(replS r.s t).length<=64+t.length:=by
 rcases replS_mem r.s t with ⟨e,_⟩ | ⟨p,hp,_,e⟩
 ·rw [e];omega
 ·rw [e];obtain ⟨_,h2,_⟩:=pairs_tkn (checkE_ok hr).2.2.2.1 hp;have:=(tkn_of h2).2.1;omega
theorem addr_bd {r:Ru} (hr:checkE r=0) {s:Str} (hs:s.length<=10000):(addrT r s).length<=10001/\(∀ t ∈ addrT r s,t.length<=64+s.length)/\(joinS [32] (addrT r s)).length<=1000000000:=by
 have h2:(toks (foldO s)).length<=1+(foldO s).length:=toks_count (foldO s) [];have h3:=foldO_le s
 have hm:∀ t ∈ toks (foldO s),t.length<=s.length:=fun t ht=>by
  have:=join_mem_len ht;rw [(foldO_fixed s).2] at this;omega
 have hl:(addrT r s).length<=10001:=by rw [addrT,addr_len];omega
 have ha:∀ t ∈ addrT r s,t.length<=64+s.length:=fun t ht=>by
  simp only [addrT,addrL,others,numbers,List.mem_append,List.mem_map,List.mem_filter] at ht
  rcases ht with ⟨u,⟨hu,_⟩,rfl⟩ | ⟨u,⟨hu,_⟩,rfl⟩
  ·have:=repl_len hr u;have:=hm u hu;omega
  ·have:=short_len u;have:=hm u hu;omega
 have h4:=join_bd2 (64+s.length) _ ha;refine ⟨hl,ha,Nat.le_trans h4 ?_⟩
 calc (64+s.length+1)*(addrT r s).length<=10065*10001:=Nat.mul_le_mul (by omega) hl
  _<=1000000000:=by decide
def addrB (r:Ru) (s:Str):Bool:=decide (addrE r s=0) && decide (addrO r s=s)
def numberS (s:Str):Str:=(numbers (toks s)).getD 0 []
def notSp (x:UInt8):Bool:=!decide (x=32)
def codeT (s:Str):Str:=(foldO s).filter notSp
def codeE (s:Str):Int:=if foldE s=0 then if (codeT s).length<=12 then 0 else 1 else foldE s
def codeO (s:Str):Str:=if codeE s=0 then codeT s else []
def codeB (s:Str):Bool:=decide (codeE s=0) && decide (codeO s=s)
theorem joinS_e:∀ l:List Str,joinS [] l=l.flatten
 | []=>rfl
 | t :: l=>by simp [joinS,tailS]
theorem opt_flat (p:Str):(opt p).flatten=p:=by
 unfold opt;split
 ·subst_vars;rfl
 ·simp
theorem toksF_flat:∀ (l p:Str),(toksF p l).flatten=p ++ l.filter notSp
 | [],p=>by rw [toksF_nil,opt_flat];simp
 | x :: l,p=>by
   by_cases h:x=32
   ·subst h;rw [toksF_sp,List.flatten_append,opt_flat,toksF_flat l []];simp [notSp]
   ·have:=toksF_skip [x] l p (fun y hy=>by rw [List.mem_singleton.1 hy];exact h);simp only [List.cons_append,List.nil_append] at this;rw [this,toksF_flat l (p ++ [x])];simp [notSp,h]
theorem code_join (s:Str):joinS [] (toks (foldO s))=codeT s:=by rw [joinS_e,toks,toksF_flat];rfl
theorem code_len (s:Str):(codeT s).length<=s.length:=Nat.le_trans (List.length_filter_le _ _) (foldO_le s)
theorem codeE_f {s:Str} (h:¬foldE s=0):foldE s=codeE s/\[]=codeO s:=by
 have e:codeE s=foldE s:=by rw [codeE,if_neg h]
 exact ⟨e.symm,by rw [codeO,e,if_neg h]⟩
theorem codeE_big {s:Str} (h:foldE s=0) (h2:(12:Int)<(codeT s).length):1=codeE s/\[]=codeO s:=by
 have e:codeE s=1:=by rw [codeE,if_pos h,if_neg (by omega)]
 exact ⟨e.symm,by rw [codeO,e];rfl⟩
theorem codeE_ok {s:Str} (h:foldE s=0) (h2:¬(12:Int)<(codeT s).length):0=codeE s/\codeT s=codeO s:=by
 have e:codeE s=0:=by rw [codeE,if_pos h,if_pos (by omega)]
 exact ⟨e.symm,by rw [codeO,e];rfl⟩
end Kx
open Go Sx Go.Proofs
namespace Kx
theorem num_cons {s:Str} (h:¬s = []):num s=isDig (s.getD 0 0):=by
 match s,h with
 | [],h=>exact absurd rfl h| x :: l,_=>rfl
theorem dig_T {x:UInt8} (h1:(48:Int)<=x.toNat) (h2:(x.toNat:Int)<=57):isDig x=true:=by simp only [isDig,decide_eq_true h1,decide_eq_true h2,Bool.and_self]
theorem dig_F1 {x:UInt8} (h1:¬(48:Int)<=x.toNat):isDig x=false:=by simp only [isDig,decide_eq_false h1,Bool.false_and]
theorem dig_F2 {x:UInt8} (h2:¬(x.toNat:Int)<=57):isDig x=false:=by simp only [isDig,decide_eq_false h2,Bool.and_false]
theorem ne_len {s:Str} (h:¬s = []):1<=s.length:=by
 match s,h with
 | [],h=>exact absurd rfl h| x :: l,_=>simp
theorem slice1 (z:Str):List.drop (Int.toNat 1) (List.take ((z.length:Int)).toNat z)=z.drop 1:=by simp
theorem trim0_at {z:Str} (hl:0<(z.length:Int)) (h:((z.getD (Int.toNat 0) 0).toNat:Int)=48):trim0 z=trim0 (z.drop 1):=by
 match z,hl,h with
 | x :: l,_,h =>
   have:x=48:=UInt8.toNat_inj.1 (by show x.toNat=48;have:(x.toNat:Int)=48:=h;omega);rw [trim0,if_pos this];rfl
theorem trim0_end {z:Str} (h:¬0<(z.length:Int)\/¬((z.getD (Int.toNat 0) 0).toNat:Int)=48):trim0 z=z:=by
 match z,h with
 | [],_=>rfl
 | x :: l,h =>
   have:¬x=48:=fun e=>by
    rcases h with h | h
    ·simp at h
     try omega
    ·exact h (by rw [e];rfl)
   rw [trim0,if_neg this]
theorem numeral_ct (s:Str):Cr 268 [.str s] (.bool (num s)):=by
 refine .det (De Tryz.func268 [] [] ?_)
 repeat' first|refine S0 ?_;conv=>whnf|exact T0|(refine Vc.om ?_ ?_;focus ((have:=ne_len (s:=s) ‹_›;omega);done))|(refine Br.d (fun h=>?_) fun h=>?_)|refine Br.bnot ?_|refine T2 ?_ ?_
 ·rw [show s = [] from h];rfl
 ·rw [num_cons (s:=s) ‹_›,isDig,decide_eq_true (show (48:Int)<=((s.getD 0 0).toNat:Int) from ‹_›),Bool.true_and];rfl
 ·rw [num_cons (s:=s) ‹_›];exact (dig_F1 ‹_›).symm
theorem rnumber_ct (s:Str):Cr 353 [.str s] (.bool (num s)):=by
 refine .det (De Tryz.func353 [] [] ?_)
 repeat' first|refine S0 ?_;conv=>whnf|exact T0|(refine Vc.om ?_ ?_;focus ((have:=ne_len (s:=s) ‹_›;omega);done))|(refine Br.d (fun h=>?_) fun h=>?_)|refine Br.bnot ?_|refine T2 ?_ ?_
 ·rw [show s = [] from h];rfl
 ·rw [num_cons (s:=s) ‹_›,isDig,decide_eq_true (show (48:Int)<=((s.getD 0 0).toNat:Int) from ‹_›),Bool.true_and];rfl
 ·rw [num_cons (s:=s) ‹_›];exact (dig_F1 ‹_›).symm
theorem tlb_ct (s:Str) (hs:s.length<=1000000000):Cr 346 [.str s,u8 48] (.str (trim0 s)):=by
 refine .det (De Tryz.func346 [] [] ?_)
 repeat' first|refine S0 ?_;conv=>whnf
 refine Lw [] [] (α:=Str) (fun z=>[(0,.str z),(1,u8 48)]) (fun z=>[]) 0 (fun z=>z.length<=s.length/\trim0 s=trim0 z) (fun z=>z.length) ?_ ?_
 ·refine Again.by s ⟨Nat.le_refl _,rfl⟩ ?_
  repeat' first|refine S0 ?_;conv=>whnf|refine Vo ?_|exact T0
 ·intro z ⟨hi,hv⟩
  repeat' first|refine S0 ?_;conv=>whnf|refine Vo ?_|exact T0|(refine Br.d (fun h=>?_) fun h=>?_)|refine T2 ?_ ?_
  ·refine Again.by (List.drop (Int.toNat 1) (List.take ((z.length:Int)).toNat z)) ⟨⟨by rw [slice1,List.length_drop];omega,by rw [slice1,hv,trim0_at ‹_› ‹_›]⟩,by rw [slice1,List.length_drop];omega⟩ ?_
   repeat' first|refine S0 ?_;conv=>whnf|refine Vo ?_|exact T0
  ·rw [hv,trim0_end (.inr ‹_›)]
  ·rw [hv,trim0_end (.inl ‹_›)]
theorem triml_ct (s:Str) (hs:s.length<=1000000000):Cr 312 [.str s,.str [48]] (.str (trim0 s)):=by
 refine .det (De Tryz.func312 [] [] ?_)
 repeat' first|refine S0 ?_;conv=>whnf|refine Vo ?_|exact T0|(refine Br.d (fun h=>?_) fun h=>?_)|refine Br.swap ?_|refine T2 ?_ ?_|refine K0 ?_|(refine M0 (g:=346) (tlb_ct _ (by first | omega | decide | (simp;done) | (simp;omega))) ?_)
 rw [show s = [] from h];rfl
theorem addrshort_ct (s:Str) (hs:s.length<=100000000):Cr 269 [.str s] (.str (shortS s)):=by
 have hl:=trim0_len s;refine .det (De Tryz.func269 [] [] ?_)
 repeat' first|refine S0 ?_;conv=>whnf|exact T0|(refine Vc.om ?_ ?_;focus ((simp only [List.length_cons,lap,List.length_nil];omega);done))|refine Br.bnot ?_|(refine Bm (fun h=>?_) fun h=>?_)|refine T2 ?_ ?_|refine K0 ?_|(refine M0 (g:=268) (numeral_ct _) ?_)|(refine M0 (g:=312) (triml_ct _ (by first | omega | decide | (simp;done) | (simp;omega))) ?_)
 ·rw [shortS,if_pos ‹_›]
 ·rw [shortS,if_neg (by rw [‹num _=false›];simp)];rfl
theorem num_drop {z:Str} (hl:1<z.length):num (z.drop 1)=isDig (z.getD 1 0):=by
 match z,hl with
 | x :: y :: l,_=>rfl
theorem rtrimmed_ct (s:Str) (hs:s.length<=1000000000) (hn:num s=true):Cr 328 [.str s] (.str (shortS s)):=by
 refine .det (De Tryz.func328 [] [] ?_)
 repeat' first|refine S0 ?_;conv=>whnf
 refine Lw [] [] (α:=Str) (fun z=>[(0,.str z)]) (fun z=>[]) 0 (fun z=>z.length<=s.length/\shortS s=shortS z/\num z=true) (fun z=>z.length) ?_ ?_
 ·refine Again.by s ⟨Nat.le_refl _,rfl,hn⟩ ?_
  repeat' first|refine S0 ?_;conv=>whnf|refine Vo ?_|exact T0
 ·intro z ⟨hi,hv,hn⟩
  have h48:((z.getD (Int.toNat 0) 0).toNat:Int)=48->z.getD 0 0=48:=fun h=>UInt8.toNat_inj.1 (by show (z.getD 0 0).toNat=48;have:((z.getD 0 0).toNat:Int)=48:=h;omega)
  have hd:=fun h:1<z.length=>num_drop h
  repeat' first|refine S0 ?_;conv=>whnf|refine Vo ?_|exact T0|(refine Br.d (fun h=>?_) fun h=>?_)|refine T2 ?_ ?_
  ·have hnd:num (z.drop 1)=true:=by rw [hd (by omega)];exact dig_T ‹_› ‹_›
   refine Again.by (List.drop (Int.toNat 1) (List.take ((z.length:Int)).toNat z)) ⟨⟨by rw [slice1,List.length_drop];omega,by rw [slice1,hv,short_step (h48 ‹_›) (by omega) hnd],by rw [slice1];exact hnd⟩,by rw [slice1,List.length_drop];omega⟩ ?_
   repeat' first|refine S0 ?_;conv=>whnf|refine Vo ?_|exact T0
  ·have hnd:num (z.drop 1)=false:=by rw [hd (by omega)];exact dig_F2 ‹_›
   rw [hv,short_fix hn (.inr (.inr hnd))]
  ·have hnd:num (z.drop 1)=false:=by rw [hd (by omega)];exact dig_F1 ‹_›
   rw [hv,short_fix hn (.inr (.inr hnd))]
  ·rw [hv,short_fix hn (.inr (.inl fun e=>‹¬_=(48:Int)› (by show ((z.getD 0 0).toNat:Int)=48;rw [e];rfl)))]
  ·rw [hv,short_fix hn (.inl (by omega))]
theorem numbers_step {l:List Str} {i:Nat} (h:i<l.length):numbers (l.take (i+1))=numbers (l.take i) ++ if num (l.getD i [])=true then [l.getD i []] else []:=filter_step num l [] i h
theorem others_step {l:List Str} {i:Nat} (h:i<l.length):others (l.take (i+1))=others (l.take i) ++ if num (l.getD i [])=true then [] else [l.getD i []]:=by
 have:=filter_step notNum l [] i h;rw [others,this];unfold notNum
 cases num (l.getD i [])<;>rfl
theorem noSh_two (e:Nat) (a b:List Str):noSh (.tup [strsO e a,strsO e b]):=⟨fun _ _=>⟨trivial,trivial⟩,fun _ _=>⟨trivial,trivial⟩,trivial⟩
theorem part_ct (l:List Str) (hl:l.length<=1000000):Cr 270 [strs l,.fn 268 []] (.tup [strsO 9 (numbers l),strsO 9 (others l)]):=by
 refine .det (De Tryz.func270 [] [] ?_)
 repeat' first|refine S0 ?_;conv=>whnf
 refine Lw [] [] (α:=Nat) (fun i=>[(1,.fn 268 []),(4,.own 0),(5,.own 1),(8,strs l),(9,i64 l.length),(10,i64 i)]) (fun i=>[(0,.arr 9 1 (numbers (l.take i)).length fun j=>[.str ((numbers (l.take i)).getD j [])]),(1,.arr 9 1 (others (l.take i)).length fun j=>[.str ((others (l.take i)).getD j [])])]) 2 (fun i=>i<=l.length) (fun i=>l.length - i) ?_ ?_
 ·refine Again.by 0 (zle _) ?_
  repeat' first|refine S0 ?_;conv=>whnf|refine Vo ?_|exact T0|refine Cho.r ?_|(rfl)|refine Vm ?_ ?_
 ·intro i hi;have hp:=parts_len (l.take i);rw [List.length_take] at hp
  repeat' first|refine S0 ?_;conv=>whnf|refine Vo ?_|refine Vb ?_|exact T0|refine W6 ?_|(refine M0 (numeral_ct _) ?_)|(refine Br.d (fun h=>?_) fun h=>?_)|(refine Bm (fun h=>?_) fun h=>?_)|refine T2 ?_ ?_|refine K0 ?_
  all_goals try simp only [tnc] at *
  ·refine Again.by (i+1) ⟨by omega,by omega⟩ ?_
   rw [numbers_step (by omega),others_step (by omega),if_pos ‹_›,if_pos ‹_›,List.append_nil]
   repeat' first|refine S0 ?_;conv=>whnf|refine Vo ?_|exact T0|refine Cho.r ?_|(exact str_app _ _ rfl)|refine Vm ?_ ?_
  ·have hn:¬num (l.getD i [])=true:=by rw [‹num _=false›];simp
   refine Again.by (i+1) ⟨by omega,by omega⟩ ?_
   rw [numbers_step (by omega),others_step (by omega),if_neg hn,if_neg hn,List.append_nil]
   repeat' first|refine S0 ?_;conv=>whnf|refine Vo ?_|exact T0|refine Cho.r ?_|(exact str_app _ _ rfl)|refine Vm ?_ ?_
  all_goals exact ⟨by rw [show i=l.length by omega,List.take_length],fun j _=>by rw [show i=l.length by omega,List.take_length]⟩
theorem rparts_ct (l:List Str) (hl:l.length<=1000000):Cr 326 [strs l] (.tup [strsO 9 (others l),strsO 9 (numbers l)]):=by
 refine .det (De Tryz.func326 [] [] ?_)
 repeat' first|refine S0 ?_;conv=>whnf
 refine Lw [] [] (α:=Nat) (fun i=>[(0,strs l),(4,.own 0),(5,.own 1),(6,i64 i)]) (fun i=>[(0,.arr 9 1 (others (l.take i)).length fun j=>[.str ((others (l.take i)).getD j [])]),(1,.arr 9 1 (numbers (l.take i)).length fun j=>[.str ((numbers (l.take i)).getD j [])])]) 2 (fun i=>i<=l.length) (fun i=>l.length - i) ?_ ?_
 ·refine Again.by 0 (zle _) ?_
  repeat' first|refine S0 ?_;conv=>whnf|refine Vo ?_|exact T0|(rfl)|refine Vm ?_ ?_
 ·intro i hi;have hp:=parts_len (l.take i);rw [List.length_take] at hp
  repeat' first|refine S0 ?_;conv=>whnf|refine Vo ?_|refine Vb ?_|exact T0|refine W6 ?_|(refine Br.d (fun h=>?_) fun h=>?_)|(refine Bm (fun h=>?_) fun h=>?_)|refine T2 ?_ ?_|refine K0 ?_|(refine M0 (g:=353) (rnumber_ct _) ?_)
  all_goals try simp only [tnc] at *
  ·refine Again.by (i+1) ⟨by omega,by omega⟩ ?_
   rw [numbers_step (by omega),others_step (by omega),if_pos ‹_›,if_pos ‹_›,List.append_nil]
   repeat' first|refine S0 ?_;conv=>whnf|refine Vo ?_|exact T0|(exact str_app _ _ rfl)|refine Vm ?_ ?_
  ·have hn:¬num (l.getD i [])=true:=by rw [‹num _=false›];simp
   refine Again.by (i+1) ⟨by omega,by omega⟩ ?_
   rw [numbers_step (by omega),others_step (by omega),if_neg hn,if_neg hn,List.append_nil]
   repeat' first|refine S0 ?_;conv=>whnf|refine Vo ?_|exact T0|(exact str_app _ _ rfl)|refine Vm ?_ ?_
  all_goals exact ⟨by rw [show i=l.length by omega,List.take_length],fun j _=>by rw [show i=l.length by omega,List.take_length]⟩
theorem toks_len (s:Str):(toks s).length<=1+s.length:=toks_count s []
theorem numbers_len (l:List Str):(numbers l).length<=l.length:=List.length_filter_le _ _
theorem toks_mem_len (s:Str):∀ t ∈ toks s,t.length<=s.length:=fun t ht=>by
 have:=(join_toksF s [] []).2 rfl;have h2:=join_mem_len (show t ∈ toksF [] s from ht);simp at this;omega
theorem number_e {s:Str} (h:((numbers (toks s)).length:Int)=0):numberS s = []:=by
 have:numbers (toks s) = []:=List.length_eq_zero_iff.1 (by omega);rw [numberS,this];rfl
theorem number_ct (s:Str) (hs:s.length<=10000):Cr 338 [.str s] (.str (numberS s)):=by
 have h1:=toks_len s;have h2:=numbers_len (toks s);refine .det (De Tryz.func338 [] [] ?_)
 repeat' first|refine S0 ?_;conv=>whnf|refine Vo ?_|exact T0|(exact noSh_two _ _ _)|(refine Br.d (fun h=>?_) fun h=>?_)|refine T2 ?_ ?_|refine K0 ?_|(refine M0 (g:=260) (tokens_ct _ (by first | omega | decide | (simp;done) | (simp;omega))) ?_)|(refine M0 (g:=270) (part_ct _ (by first | omega | decide | (simp;done) | (simp;omega))) ?_)|refine Vm ?_ ?_
 rw [number_e ‹_›];rfl
theorem code_join_len {s:Str} (hs:s.length<=10000):(joinS [] (toks (foldO s))).length<=1000000000:=by
 rw [code_join];have:=code_len s;omega
theorem code_ct (s:Str) (hs:s.length<=10000):Cr 204 [.str s] (.tup [.str (codeO s),i64 (codeE s)]):=by
 have hfo:=foldO_le s;have h1:=toks_len (foldO s);have h3:=code_join_len hs;refine .det (De Tryz.func204 [] [] ?_)
 repeat' first|refine S0 ?_;conv=>whnf|exact T0|exact noSh_str _|(refine M0 (sjoin_ct (toks (foldO s)) [] (by omega) h3) ?_)|(refine Br.d (fun h=>?_) fun h=>?_)|refine Br.bnot ?_|refine T2 ?_ ?_|refine K0 ?_|(refine M0 (g:=259) (fold_ct _ (by first | omega | decide | (simp;done) | (simp;omega))) ?_)|(refine M0 (g:=260) (tokens_ct _ (by first | omega | decide | (simp;done) | (simp;omega))) ?_)|refine Vm ?_ ?_
 all_goals try rw [code_join] at *
 all_goals first
  | exact (codeE_big ‹foldE s=0› ‹_›).1
  | exact (codeE_big ‹foldE s=0› ‹_›).2
  | exact (codeE_ok ‹foldE s=0› ‹_›).1
  | exact (codeE_ok ‹foldE s=0› ‹_›).2
  | exact (codeE_f ‹¬foldE s=0›).1
  | exact (codeE_f ‹¬foldE s=0›).2
theorem code_step {s:Str} {i:Nat} (h:i<s.length):(s.take (i+1)).filter notSp=(s.take i).filter notSp ++ if notSp (s.getD i 0)=true then [s.getD i 0] else []:=filter_step notSp s 0 i h
theorem take_le {s:Str} (i:Nat):((s.take i).filter notSp).length<=s.length:=Nat.le_trans (List.length_filter_le _ _) (by rw [List.length_take];omega)
theorem cut1 {s:Str} {i:Nat} (h:i<s.length):List.drop ((i:Int)).toNat (List.take ((i:Int)+1).toNat s) = [s.getD i 0]:=by
 rw [tnc,show ((i:Int)+1).toNat=i+1 by omega,cut_step s 0 i h]
theorem rcode_ct (s:Str) (hs:s.length<=10000):Cr 280 [.str s] (.tup [.str (codeO s),i64 (codeE s)]):=by
 have hfo:=foldO_le s;refine .det (De Tryz.func280 [] [] ?_)
 repeat' first|refine S0 ?_;conv=>whnf|exact T0|(refine Br.d (fun h=>?_) fun h=>?_)|refine Br.bnot ?_|refine T2 ?_ ?_|refine K0 ?_|(refine M0 (g:=321) (rfold_ct _ (by first | omega | decide | (simp;done) | (simp;omega))) ?_)
 ·refine Lw [] [] (α:=Nat) (fun i=>[(4,.str (foldO s)),(6,.str (((foldO s).take i).filter notSp)),(7,i64 i)]) (fun i=>[]) 0 (fun i=>i<=(foldO s).length) (fun i=>(foldO s).length - i) ?_ ?_
  ·refine Again.by 0 (zle _) ?_
   repeat' first|refine S0 ?_;conv=>whnf|refine Vo ?_|exact T0|(rfl)|refine Vm ?_ ?_
  ·intro i hi;have hle:=take_le (s:=foldO s) i
   repeat' first|refine S0 ?_;conv=>whnf|refine Vo ?_|exact T0|refine W6 ?_|(refine Vc.om ?_ ?_;focus ((rw [cut1 (by omega)];simp only [List.length_cons,List.length_nil];omega);done))|(refine Br.d (fun h=>?_) fun h=>?_)|refine Br.bnot ?_|refine T2 ?_ ?_
   ·refine Again.by (i+1) ⟨by omega,by omega⟩ ?_
    have:notSp ((foldO s).getD i 0)=false:=by
     have h2:(((foldO s).getD i 0).toNat:Int)=32:=by simpa only [tnc] using h
     have:(foldO s).getD i 0=32:=UInt8.toNat_inj.1 (by show _=32;omega);rw [notSp,this];rfl
    rw [code_step (by omega),if_neg (by rw [this];simp),List.append_nil]
    repeat' first|refine S0 ?_;conv=>whnf|refine Vo ?_|exact T0
   ·refine Again.by (i+1) ⟨by omega,by omega⟩ ?_
    have:notSp ((foldO s).getD i 0)=true:=by
     have h2:¬(((foldO s).getD i 0).toNat:Int)=32:=by simpa only [tnc] using h
     have:¬(foldO s).getD i 0=32:=fun e=>h2 (by rw [e];rfl)
     rw [notSp,decide_eq_false this];rfl
    rw [code_step (by omega),if_pos this]
    repeat' first|refine S0 ?_;conv=>whnf|refine Vo ?_|exact T0|(rw [cut1 (by omega)])
   all_goals rw [show ((foldO s).take i).filter notSp=codeT s by rw [show i=(foldO s).length by omega,List.take_length];rfl] at *
   all_goals first
    | exact (codeE_big ‹foldE s=0› ‹_›).1
    | exact (codeE_big ‹foldE s=0› ‹_›).2
    | exact (codeE_ok ‹foldE s=0› ‹_›).1
    | exact (codeE_ok ‹foldE s=0› ‹_›).2
    | exact (codeE_f ‹¬foldE s=0›).1
    | exact (codeE_f ‹¬foldE s=0›).2
 all_goals first
  | exact (codeE_big ‹foldE s=0› ‹_›).1
  | exact (codeE_big ‹foldE s=0› ‹_›).2
  | exact (codeE_ok ‹foldE s=0› ‹_›).1
  | exact (codeE_ok ‹foldE s=0› ‹_›).2
  | exact (codeE_f ‹¬foldE s=0›).1
  | exact (codeE_f ‹¬foldE s=0›).2
theorem normed_ct (s:Str) (hs:s.length<=10000):Cr 206 [.str s] (.bool (codeB s)):=by
 refine .det (De Tryz.func206 [] [] ?_)
 repeat' first|refine S0 ?_;conv=>whnf|exact T0|(refine Br.d (fun h=>?_) fun h=>?_)|refine T2 ?_ ?_|refine K0 ?_|(refine M0 (g:=204) (code_ct _ (by first | omega | decide | (simp;done) | (simp;omega))) ?_)
 ·rw [codeB,decide_eq_true ‹codeE s=0›,Bool.true_and]
 ·rw [codeB,decide_eq_false ‹¬codeE s=0›,Bool.false_and]
theorem rnormed_ct (s:Str) (hs:s.length<=10000):Cr 276 [.str s] (.bool (codeB s)):=by
 refine .det (De Tryz.func276 [] [] ?_)
 repeat' first|refine S0 ?_;conv=>whnf|exact T0|(refine Br.d (fun h=>?_) fun h=>?_)|refine T2 ?_ ?_|refine K0 ?_|(refine M0 (g:=280) (rcode_ct _ (by first | omega | decide | (simp;done) | (simp;omega))) ?_)
 ·rw [codeB,decide_eq_true ‹codeE s=0›,Bool.true_and]
 ·rw [codeB,decide_eq_false ‹¬codeE s=0›,Bool.false_and]
end Kx
