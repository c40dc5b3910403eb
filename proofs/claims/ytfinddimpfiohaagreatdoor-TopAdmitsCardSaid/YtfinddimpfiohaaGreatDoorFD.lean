/-
  Texts and lists of texts, for the contracts of this proof.
  No condition beyond those written in each theorem.
-/
import Derived.Test.YtfinddimpfiohaaGreatDoorFC
import Derived.Shelf.Strings.FieldsFuncGrows
import Derived.Lib.TrimUEq
import Derived.Lib.Join
import Derived.Shelf.SlSortCmp.NoneTotal
set_option linter.unusedSimpArgs false
set_option linter.unusedVariables false
set_option maxRecDepth 4000
namespace Sx
open Go
abbrev u8 (n:Int):D:=.int .u8 n
abbrev Str:=List UInt8
def strs (l:List Str):D:=.tab 1 l.length fun i=>[.str (l.getD i [])]
def strsO (e:Nat) (l:List Str):D:=.ftab e 1 l.length fun i=>[.str (l.getD i [])]
theorem Br.same {α:Type} {x:α} [Decidable (x=x)] {A B:Prop} (k:Step B):Br ((!decide (x=x))=true) A ((!decide (x=x))=false) B:=⟨fun h=>by simp at h,fun _=>k.out⟩
def sameD:D->D->Bool
 | .int k _,.int k' _=>decide (k=k')| .str _,.str _=>true| .bool _,.bool _=>true| .val _,.val _=>true| _,_=>false
def sameL:List D->List D->Bool
 | [],[]=>true| d :: l,e :: m=>sameD d e && sameL l m| _,_=>false
theorem ite_same {c:Prop} [Decidable c]:∀ {d e:D},sameD d e=true->D.ite c d e=if c then d else e:=by
 intro d e h;unfold sameD at h;split at h
 ·rename_i k x k' y
  have h:k=k':=by simpa using h
  subst h;simp only [D.ite,D.ite1,decide_true]
  split<;>rfl
 ·simp only [D.ite,D.ite1];split<;>rfl
 ·simp only [D.ite,D.ite1];split<;>rfl
 ·simp only [D.ite,D.ite1];split<;>rfl
 ·cases h
theorem sameL_len:∀ {l m:List D},sameL l m=true->l.length=m.length
 | [],[],_=>rfl
 | _ :: l,_ :: m,h=>by simp only [sameL,bat] at h;simp [sameL_len h.2]
 | [],_ :: _,h=>by simp [sameL] at h
 | _ :: _,[],h=>by simp [sameL] at h
theorem iteL_same {c:Prop} [Decidable c] {l m:List D} (h:sameL l m=true):iteL c l m=if c then l else m:=by
 unfold iteL;rw [sameL_len h,Nat.beq_refl];simp only
 have key:∀ {l m:List D},sameL l m=true->zipI (D.ite c) l m=if c then l else m:=by
  intro l
  induction l with
  | nil=>intro m h;cases m with
    | nil=>split<;>rfl
    | cons=>simp [sameL] at h
  | cons d l ih=>intro m h;cases m with
    | nil=>simp [sameL] at h
    | cons e m =>
      simp only [sameL,bat] at h;simp only [zipI,ite_same h.1,ih h.2]
      split<;>rfl
 exact key h
theorem getD_app {α:Type} (a b:List α) (j:Nat) (z:α):(a ++ b).getD j z=if j<a.length then a.getD j z else b.getD (j - a.length) z:=by
 simp only [gDe,List.getElem?_append]
 split<;>rfl
theorem app_one {α:Type} (F:α->List D) (z:α) (hF:∀ x y,sameL (F x) (F y)=true) (l:List α) (x:α) {m:List D} (hm:m=F x) :
 l.length+1=(l ++ [x]).length/\∀ i,i<(l ++ [x]).length->iteL (i<l.length) (F (l.getD i z)) (selC [m] (i - l.length))=F ((l ++ [x]).getD i z):=by
 refine ⟨by simp,fun i hi=>?_⟩;subst hm;simp only [selC];rw [iteL_same (hF _ _)];simp only [lap,List.length_cons,List.length_nil] at hi;by_cases h:i<l.length
 ·rw [if_pos h];simp [List.getD,List.getElem?_append,h]
 ·rw [if_neg h,show i=l.length by omega];simp [List.getD]
theorem app_all {α:Type} (F:α->List D) (z:α) (hF:∀ x y,sameL (F x) (F y)=true) (l m:List α) :
 l.length+m.length=(l ++ m).length/\∀ i,i<(l ++ m).length->iteL (i<l.length) (F (l.getD i z)) (F (m.getD (i - l.length) z))=F ((l ++ m).getD i z):=by
 refine ⟨by simp,fun i hi=>?_⟩;rw [iteL_same (hF _ _)];by_cases h:i<l.length
 ·rw [if_pos h];simp [List.getD,List.getElem?_append,h]
 ·rw [if_neg h];simp [List.getD,List.getElem?_append,h]
theorem set_one {α:Type} (F:α->List D) (z:α) (hF:∀ x y,sameL (F x) (F y)=true) (l:List α) (k:Nat) (x:α) {m:List D} (hm:m=F x) :
 l.length=(l.set k x).length/\∀ i,i<(l.set k x).length->iteL (i=k) m (F (l.getD i z))=F ((l.set k x).getD i z):=by
 refine ⟨by simp,fun i hi=>?_⟩;subst hm;rw [iteL_same (hF _ _)];simp only [List.length_set] at hi;by_cases h:i=k
 ·subst h;rw [if_pos rfl];simp [List.getD,hi]
 ·rw [if_neg h];simp [List.getD,List.getElem?_set,Ne.symm h]
theorem byte_app (a:Str) (x:UInt8) {m:List D} (hm:m = [.int .u8 x.toNat]):a.length+1=(a ++ [x]).length/\∀ i,i<(a ++ [x]).length->iteL (i<a.length) (bytesF a i) (selC [m] (i - a.length))=bytesF (a ++ [x]) i :=
 app_one (fun x:UInt8=>[.int .u8 x.toNat]) 0 (fun _ _=>rfl) a x hm
theorem bytes_app (a b:Str):a.length+b.length=(a ++ b).length/\∀ i,i<(a ++ b).length->iteL (i<a.length) (bytesF a i) (bytesF b (i - a.length))=bytesF (a ++ b) i :=
 app_all (fun x:UInt8=>[.int .u8 x.toNat]) 0 (fun _ _=>rfl) a b
theorem str_app (a:List Str) (x:Str) {m:List D} (hm:m = [.str x]):a.length+1=(a ++ [x]).length/\∀ i,i<(a ++ [x]).length->iteL (i<a.length) [.str (a.getD i [])] (selC [m] (i - a.length)) = [.str ((a ++ [x]).getD i [])] :=
 app_one (fun x:Str=>[.str x]) [] (fun _ _=>rfl) a x hm
theorem selC_get {α:Type} (F:α->List D) (z:α) (hF:∀ x y,sameL (F x) (F y)=true):∀ (l:List α) (i:Nat),i<l.length->selC (l.map F) i=F (l.getD i z)
 | [],i,h=>absurd h (Nat.not_lt_zero i)| [x],0,_=>rfl
 | [x],i+1,h=>by simp at h
 | x :: y :: l,i,h=>by
   show iteL (i=0) (F x) (selC ((y :: l).map F) (i - 1))=_
   cases i with
   | zero =>
     rw [selC_get F z hF (y :: l) 0 (by simp),iteL_same (hF _ _),if_pos rfl];rfl
   | succ i =>
     rw [Nat.add_sub_cancel,selC_get F z hF (y :: l) i (by simpa using h),iteL_same (hF _ _),if_neg (Nat.succ_ne_zero i)];rfl
theorem selC_str (l:List Str) (i:Nat) (h:i<l.length):selC (l.map fun s=>[D.str s]) i = [.str (l.getD i [])]:=selC_get (fun s:Str=>[.str s]) [] (fun _ _=>rfl) l i h
theorem Ct.lit2 {P:Program} {g:FuncId} {R:D->List D->Prop} {b:D} (l:List Str) (hb:ioEq [b] [b]=true/\wkD b b false) (H:Ct P g [b,strs l] R):Ct P g [b,.tab 1 l.length fun i=>selC (l.map fun s=>[D.str s]) i] R :=
 H.arg ⟨by have:=hb.1;cases b<;>first | rfl | exact this,hb.2,⟨rfl,fun i hi=>selC_str l i hi⟩,trivial⟩
theorem drop_step {α:Type} (l:List α) (z:α) (i:Nat) (h:i<l.length):l.drop i=l.getD i z :: l.drop (i+1):=by
 rw [List.drop_eq_getElem_cons h,gDe,List.getElem?_eq_getElem h];rfl
theorem all_step {α:Type} (p:α->Bool) (l:List α) (z:α) (i:Nat) (h:i<l.length):(l.drop i).all p=(p (l.getD i z) && (l.drop (i+1)).all p):=by
 rw [drop_step l z i h,List.all_cons]
theorem any_step {α:Type} (p:α->Bool) (l:List α) (z:α) (i:Nat) (h:i<l.length):(l.drop i).any p=(p (l.getD i z) || (l.drop (i+1)).any p):=by
 rw [drop_step l z i h,List.any_cons]
theorem take_step {α:Type} (l:List α) (z:α) (i:Nat) (h:i<l.length):l.take (i+1)=l.take i ++ [l.getD i z]:=by
 rw [List.take_add_one,List.getElem?_eq_getElem h,gDe,List.getElem?_eq_getElem h];rfl
theorem filter_step {α:Type} (p:α->Bool) (l:List α) (z:α) (i:Nat) (h:i<l.length):(l.take (i+1)).filter p=(l.take i).filter p ++ if p (l.getD i z) then [l.getD i z] else []:=by
 rw [take_step l z i h,List.filter_append,List.filter_cons,List.filter_nil]
theorem getD_in {α:Type} {l:List α} {i:Nat} {z:α} (h:i<l.length):l.getD i z ∈ l:=by
 rw [gDe,List.getElem?_eq_getElem h];exact List.getElem_mem h
theorem cut_step {α:Type} (l:List α) (z:α) (i:Nat) (h:i<l.length):(l.take (i+1)).drop i = [l.getD i z]:=by
 rw [take_step l z i h,List.drop_append_of_le_length (by simp;omega),ddl (by simp;omega)];rfl
def toksF:Str->Str->List Str
 | part,[]=>if part = [] then [] else [part]
 | part,x :: l=>if x=32 then (if part = [] then toksF [] l else part :: toksF [] l) else toksF (part ++ [x]) l
def toks (s:Str):List Str:=toksF [] s
theorem toksF_skip:∀ (a b part:Str),(∀ x ∈ a,x≠32)->toksF part (a ++ b)=toksF (part ++ a) b
 | [],b,part,_=>by simp
 | x :: a,b,part,h=>by
   have hx:=h x (by simp);rw [List.cons_append,toksF,if_neg hx,toksF_skip a b (part ++ [x]) (fun y hy=>h y (by simp [hy]))];simp
theorem getD_data (s:ByteArray) (pos:Nat) (h:pos<s.data.toList.length):s.data.toList.getD pos 0=s.data.toList[pos]:=by
 rw [gDe,List.getElem?_eq_getElem h];rfl
theorem rune_rest (n b0 b1 b2 b3:Nat) :
 (1<(Lib.decodeN n b0 b1 b2 b3).2->b1 / 64=2)/\(2<(Lib.decodeN n b0 b1 b2 b3).2->b2 / 64=2)/\(3<(Lib.decodeN n b0 b1 b2 b3).2->b3 / 64=2)/\(Lib.decodeN n b0 b1 b2 b3).2<5:=by
 unfold Lib.decodeN
 (repeat' split)<;>refine ⟨?_,?_,?_,?_⟩<;>simp only<;>omega
theorem decode_space (s:ByteArray) (pos:Nat) (h:pos<s.size) :
 (s.data.toList.getD pos 0=32/\Utf8.decode s pos=(32,1)) \/
 ((Utf8.decode s pos).1≠32/\1<=(Utf8.decode s pos).2/\pos+(Utf8.decode s pos).2<=s.size/\∀ j,j<(Utf8.decode s pos).2->s.data.toList.getD (pos+j) 0≠32):=by
 have hsz:s.data.toList.length=s.size:=rfl;have hd:Utf8.decode s pos=Lib.decodeN (s.data.toList.length - pos) (s.data.toList.getD pos 0).toNat (s.data.toList.getD (pos+1) 0).toNat (s.data.toList.getD (pos+2) 0).toNat (s.data.toList.getD (pos+3) 0).toNat:=Lib.decode_N s pos;have hw:=Lib.decodeN_ge1 (s.data.toList.length - pos) (s.data.toList.getD pos 0).toNat (s.data.toList.getD (pos+1) 0).toNat (s.data.toList.getD (pos+2) 0).toNat (s.data.toList.getD (pos+3) 0).toNat;have hl:=Lib.decodeN_le_n' (s.data.toList.length - pos) (s.data.toList.getD pos 0).toNat (s.data.toList.getD (pos+1) 0).toNat (s.data.toList.getD (pos+2) 0).toNat (s.data.toList.getD (pos+3) 0).toNat (by omega);obtain ⟨c1,c2,c3,c4⟩:=rune_rest (s.data.toList.length - pos) (s.data.toList.getD pos 0).toNat (s.data.toList.getD (pos+1) 0).toNat (s.data.toList.getD (pos+2) 0).toNat (s.data.toList.getD (pos+3) 0).toNat
 have key:∀ b:UInt8,b.toNat / 64=2->b≠32:=fun b hb e=>by subst e;revert hb;decide
 have asc:∀ n b0 b1 b2 b3,128<=b0->(Lib.decodeN n b0 b1 b2 b3).1≠32:=fun n b0 b1 b2 b3 h0=>by
  unfold Lib.decodeN
  repeat' split
  all_goals (simp only;omega)
 rw [<-hd] at hw hl c1 c2 c3 c4;by_cases hb:s.data.toList.getD pos 0=32
 ·refine .inl ⟨hb,?_⟩;rw [hd,hb,Lib.decodeN_ascii _ _ _ _ _ (by decide)];rfl
 ·right
  refine ⟨?_,hw,by omega,fun j hj=>?_⟩
  ·rcases Nat.lt_or_ge (s.data.toList.getD pos 0).toNat 128 with h1 | h1
   ·rw [hd,Lib.decodeN_ascii _ _ _ _ _ h1];intro e;exact hb (UInt8.toNat_inj.1 (by simpa using e))
   ·rw [hd];exact asc _ _ _ _ _ h1
  ·match j with
   | 0=>simpa using hb| 1=>exact key _ (c1 (by omega))| 2=>exact key _ (c2 (by omega))| 3=>exact key _ (c3 (by omega))| j+4=>omega
theorem extract_list (s:ByteArray) (a b:Nat):(s.extract a b).data.toList=(s.data.toList.take b).drop a:=by
 rw [ByteArray.data_extract,Array.toList_extract];simp [List.extract,List.drop_take]
theorem spans_toks (s:ByteArray):∀ (f pos:Nat) (st:Option Nat) (acc:List (Nat × Nat)),s.size<=pos+f->pos<=s.size->(∀ a,st=some a->a<pos) ->
 (Lib.closeSpans s (Lib.spansFromP (fun x=>decide (x=32)) s f pos st acc)).map (fun x=>(s.extract x.1 x.2).data.toList) =
   acc.map (fun x=>(s.extract x.1 x.2).data.toList) ++ toksF (match st with | none=>[] | some a=>(s.data.toList.take pos).drop a) (s.data.toList.drop pos):=by
 have hsz:s.data.toList.length=s.size:=rfl
 have ending:∀ (pos:Nat) (st:Option Nat) (acc:List (Nat × Nat)),pos=s.size->(∀ a,st=some a->a<pos) ->
  (Lib.closeSpans s (acc,st)).map (fun x=>(s.extract x.1 x.2).data.toList) =
  acc.map (fun x=>(s.extract x.1 x.2).data.toList) ++ toksF (match st with | none=>[] | some a=>(s.data.toList.take pos).drop a) (s.data.toList.drop pos):=fun pos st acc hp hst=>by
  subst hp;rw [ddl (Nat.le_of_eq hsz)]
  cases st with
  | none=>simp [Lib.closeSpans,toksF]
  | some a =>
    have ha:=hst a rfl
    have hne:(s.data.toList.take s.size).drop a≠[]:=by
     intro h0;have:=congrArg List.length h0;rw [List.length_drop,List.length_take,hsz] at this;simp at this;omega
    simp only [Lib.closeSpans,toksF,if_neg hne,List.map_append,List.map_cons,List.map_nil,extract_list]
 intro f
 induction f with
 | zero =>
   intro pos st acc h1 h2 h3;exact ending pos st acc (by omega) h3
 | succ f ih =>
   intro pos st acc h1 h2 h3;by_cases hp:pos<s.size
   ·simp only [Lib.spansFromP,hp,if_true]
    have hdrop:s.data.toList.drop pos=s.data.toList.getD pos 0 :: s.data.toList.drop (pos+1):=by
     rw [List.drop_eq_getElem_cons (by rw [hsz];exact hp),getD_data _ _ (by rw [hsz];exact hp)]
    rcases decode_space s pos hp with ⟨hb,hd⟩ | ⟨hr,hk1,hk2,hall⟩
    ·rw [hd];simp only [decide_true,if_true];rw [hdrop,hb]
     cases st with
     | none =>
       simp only;rw [ih (pos+1) none acc (by omega) (by omega) nofun];simp [toksF]
     | some a =>
       simp only;have ha:=h3 a rfl;rw [ih (pos+1) none _ (by omega) (by omega) nofun]
       have hne:(s.data.toList.take pos).drop a≠[]:=by
        intro h0;have:=congrArg List.length h0;rw [List.length_drop,List.length_take,hsz] at this;simp at this;omega
       have he:((s.extract a pos).data.toList)=(s.data.toList.take pos).drop a:=extract_list s a pos;simp only [List.map_append,List.map_cons,List.map_nil,he,toksF,if_pos,if_neg hne,List.append_assoc,List.cons_append,List.nil_append]
    ·simp only [decide_eq_true_eq,hr,if_false];obtain ⟨K,hK⟩:∃ K,(Utf8.decode s pos).2=K:=⟨_,rfl⟩;rw [hK] at hk1 hk2 hall;rw [hK]
     have hsplit:s.data.toList.drop pos=(s.data.toList.drop pos).take K ++ s.data.toList.drop (pos+K):=by
      rw [<-List.drop_drop];exact (List.take_append_drop K _).symm
     have hno:∀ x ∈ (s.data.toList.drop pos).take K,x≠32:=fun x hx=>by
      obtain ⟨j,hj,rfl⟩:=List.mem_iff_getElem.1 hx
      have hjk:j<K:=by simp at hj;omega
      have:=hall j hjk;rw [getD_data _ _ (by simp at hj;rw [hsz];omega)] at this;simpa using this
     have hcat:∀ a,a<=pos->(s.data.toList.take pos).drop a ++ (s.data.toList.drop pos).take K=(s.data.toList.take (pos+K)).drop a:=fun a ha=>by
      rw [List.take_add,List.drop_append_of_le_length (by rw [List.length_take,hsz];omega)]
     cases st with
     | none =>
       simp only;rw [ih (pos+K) (some pos) acc (by omega) (by omega) (fun a ha=>by cases ha;omega)];rw [hsplit,toksF_skip _ _ _ hno];simp only [List.nil_append]
       congr 2
       have:=hcat pos (Nat.le_refl _);rw [<-this,ddl (by rw [List.length_take,hsz];omega),List.nil_append]
     | some a =>
       simp only;have ha:=h3 a rfl;rw [ih (pos+K) (some a) acc (by omega) (by omega) (fun b hb=>by cases hb;omega)];rw [hsplit,toksF_skip _ _ _ hno,hcat a (by omega)]
   ·rw [Lib.spansFromP_end _ _ _ _ _ _ hp];exact ending pos st acc (by omega) h3
theorem fields_toks (s:Str):(Lib.goFieldsP (fun x=>decide (x=32)) ⟨s.toArray⟩).map (fun b=>b.data.toList)=toks s:=by
 unfold Lib.goFieldsP Lib.spansOfP;rw [List.map_map];have:=spans_toks ⟨s.toArray⟩ (⟨s.toArray⟩:ByteArray).size 0 none [] (by omega) (zle _) nofun;simpa [toks,Function.comp_def] using this
theorem FnOK.enter {P:Program} {g:FuncId} (h:FnOK P g) (args:Array Value) (w:World):(callFunc g args).run P w = .ok (.enter g args) w:=by
 obtain ⟨fn,hfn,hbody,hname⟩:=h.ex
 have hname' : fn.name≠ "runtime.NumGoroutine":=by simpa using hname
 have hbody' : fn.body≠none:=by intro h0;rw [h0] at hbody;cases hbody
 simp [callFunc,hfn,hbody',hname']
theorem Laid.grown {P:Program} {w W:World} {F G:Nat->Prop} (h:Laid P w.heap F) (hb:RowKit.Below w.heap.size w W) (hG:∀ b,b<w.heap.size->G b->F b):Laid P W.heap G:=fun x hx g hg=>by
 obtain ⟨h1,h2,h3⟩:=h x hx g hg;refine ⟨Nat.lt_of_lt_of_le h1 hb.size,fun hf=>h2 (hG g h1 hf),?_⟩;rw [hb.block g h1];exact h3
theorem Ct.pred {P:Program} {g:FuncId} {p:Nat->Bool} (h:∀ x:Nat,x<=1114111->Ct P g [.int .i32 x] fun r outs=>r = .bool (p x)/\outs = []) (w:World) {F:Nat->Prop} (hl:Laid P w.heap F):Go.Proofs.PredGrows P g #[] p w:=by
 intro W x hx hb;refine ((h x hx).ok W (fun _=>False) #[.int .i32 x] [] (fun _ h=>h.elim) ?_ List.nodup_nil ⟨nofun,hl.grown hb (fun _ _ h=>by simp at h)⟩).mono ?_
 ·simp [OdT,Od,Rd]
 ·rintro e w' ⟨v,r,outs,S',F',rfl,⟨rfl,rfl⟩,hB,hod⟩
  simp only [OdT,Od,Rd] at hod;obtain ⟨F1,F2,_,⟨rfl,_⟩,_⟩:=hod;exact ⟨rfl,hB.os,hB.tape,hB.output,hB.size,fun k hk=>hB.old k hk nofun⟩
theorem fields_ct {P:Program} {f g:FuncId} {e:Nat} (hfn:FnOK P f) (s:Str) (hp:∀ x:Nat,x<=1114111->Ct P g [.int .i32 x] fun r outs=>r = .bool (decide (x=32))/\outs = [])
 (hc:∀ (p:Nat->Bool) (s:ByteArray) (w:World),(∀ args w,(callFunc g args).run P w = .ok (.enter g args) w)->s.size<=4294967296->Go.Proofs.PredGrows P g #[] p w ->
   Calls P f #[.string s,.func (.func g) #[] #[]] w fun e' w'=>∃ A,e' = .returned (.slice (some ⟨A,0,none⟩) (Lib.goFieldsP p s).length (Lib.goFieldsP p s).length)/\w.heap.size<=A /\
    w'.ownsRow w.heap.size e 1 (.slice (some ⟨A,0,none⟩) (Lib.goFieldsP p s).length (Lib.goFieldsP p s).length) (Lib.goFieldsP p s).length ((Lib.goFieldsP p s).map Value.string)/\RowKit.Below w.heap.size w w')
 (hs:s.length<=4294967296):Ct P f [.str s,.fn g []] fun r outs=>r=strsO e (toks s)/\outs = []:=by
 refine ⟨hfn,fun w S0 vs F hS hod hnd hFS=>?_⟩;have hl:=hod.length
 obtain ⟨va,vb,hvs⟩:∃ va vb,vs = #[va,vb]:=by
  match vs,hl with
  | ⟨[a,b]⟩,_=>exact ⟨a,b,rfl⟩
 subst hvs;simp only [OdT,OdL,Od,Rd] at hod;obtain ⟨F1,F2,rfl,⟨rfl,rfl⟩,F3,F4,rfl,⟨cs,rfl,hcs⟩,rfl⟩:=hod
 obtain rfl:cs = #[]:=by
  match cs,hcs with
  | ⟨[]⟩,_=>rfl| ⟨_ :: _⟩,h=>simp [OdL] at h
 simp only [OdL] at hcs;subst hcs;refine (hc (fun x=>decide (x=32)) ⟨s.toArray⟩ w (fun args w=>(hp 0 (by omega)).fn.enter args w) (by simpa [ByteArray.size] using hs) (Ct.pred hp w hFS.2)).mono ?_
 rintro e' w' ⟨A,rfl,hA,hown,hb⟩
 have hft:=fields_toks s;generalize hL:Lib.goFieldsP (fun x=>decide (x=32)) ⟨s.toArray⟩=L at *
 have hlen:(toks s).length=L.length:=by rw [<-hft,List.length_map]
 refine ⟨_,_,_,S0,[A],rfl,⟨rfl,rfl⟩,⟨hb.os,hb.tape,hb.output,hb.size,fun b h1 _=>hb.block b h1,fun b h=>h,fun b h=>.inl h,by simp,?_,?_⟩,?_⟩
 ·intro b hb1 hb2;simp only [List.mem_singleton] at hb1;subst hb1;exact absurd (hS b hb2) (by omega)
 ·intro b hb1;simp only [List.mem_singleton] at hb1;subst hb1;exact .inr hA
 ·simp only [OdT,strsO,Od,ioV];refine ⟨[A],[],by simp,⟨⟨L.map Value.string,?_,fun i hi=>?_,fun u hu=>?_⟩,by simp [Value.ownBlock]⟩,rfl⟩
  ·rw [hlen];exact OwnsH.of_row hown
  ·rw [Nat.mul_one,List.drop_eq_getElem_cons (by simp;omega)]
   have hi' : i<L.length:=by omega
   simp only [List.take_succ_cons,List.take_zero,RdL,Rd,and_true];rw [<-hft];simp [Value.oneCell',List.getD,hi']
  ·obtain ⟨x,_,rfl⟩:=List.mem_map.1 hu;rfl
end Sx
namespace Sx
open Go
def tailS (sep:Str) (r:List Str):Str:=(r.map (sep ++ ·)).flatten
def joinS (sep:Str):List Str->Str
 | []=>[]| x :: r=>x ++ tailS sep r
theorem join_same (sep:Str) (l:List Str):Lib.join l sep=joinS sep l:=by
 cases l with
 | nil=>rfl
 | cons x r=>rw [Lib.join_cons];rfl
theorem tailS_app (sep:Str) (a b:List Str):tailS sep (a ++ b)=tailS sep a ++ tailS sep b:=by simp [tailS]
theorem joinS_snoc (sep:Str) (l:List Str) (x:Str):joinS sep (l ++ [x])=if l = [] then x else joinS sep l ++ sep ++ x:=by
 cases l with
 | nil=>simp [joinS,tailS]| cons y r=>simp [joinS,tailS_app,tailS]
theorem join_ct {P:Program} {f:FuncId} (hfn:FnOK P f) (l:List Str) (sep:Str) (hl:l.length<=140737488355328) (hlen:(joinS sep l).length<=140737488355328)
 (h0:∀ (a:Option Addr) (c:Nat) (sep:ByteArray) (w:World),Calls P f #[.slice a 0 c,.string sep] w fun e w'=>e = .returned (.string ⟨#[]⟩)/\w' = w)
 (h1:∀ (bk o c:Nat) (xs:List ByteArray) (sep:ByteArray) (w:World),(∀ (j:Nat) x,xs[j]? = some x->w.cell? ⟨bk,o+j,none⟩=some (.string x))->bk<w.heap.size->xs.length<=140737488355328->xs.length<=c->(Lib.join (xs.map (·.data.toList)) sep.data.toList).length<=140737488355328 ->
   Calls P f #[.slice (some ⟨bk,o,none⟩) xs.length c,.string sep] w fun e w'=>e = .returned (.string ⟨(Lib.join (xs.map (·.data.toList)) sep.data.toList).toArray⟩)/\RowKit.Below w.heap.size w w') :
 Ct P f [strs l,.str sep] fun r outs=>r = .str (joinS sep l)/\outs = []:=by
 refine ⟨hfn,fun w S0 vs F hS hod hnd hFS=>?_⟩;have hll:=hod.length
 obtain ⟨va,vb,hvs⟩:∃ va vb,vs = #[va,vb]:=by
  match vs,hll with
  | ⟨[a,b]⟩,_=>exact ⟨a,b,rfl⟩
 subst hvs;simp only [OdT,strs,Od] at hod;obtain ⟨F1,F2,rfl,⟨hv,rfl⟩,F3,F4,rfl,⟨hs,rfl⟩,rfl⟩:=hod;simp only [Rd] at hv hs;subst hs;obtain ⟨a,cap,rfl,hn,hel⟩:=hv
 have fin:∀ (e:Ending) (w' : World),e = .returned (.string ⟨(joinS sep l).toArray⟩)->RowKit.Below w.heap.size w w' ->
  ∃ v r outs S' F',e = .returned v/\(r=D.str (joinS sep l)/\outs = [])/\Back w S0 ([] ++ ([] ++ [])) w' S' F'/\OdT (MiS S' w'.heap) (r :: outs) (v :: ioV [D.tab 1 l.length fun i=>[.str (l.getD i [])],.str sep] [.slice a l.length cap,.string ⟨sep.toArray⟩]) F':=fun e w' he hb =>
  ⟨_,_,_,S0,[],he,⟨rfl,rfl⟩,⟨hb.os,hb.tape,hb.output,hb.size,fun b h1 _=>hb.block b h1,fun b h=>h,fun b h=>.inl h,List.nodup_nil,nofun,nofun⟩,by simp [OdT,Od,Rd,ioV]⟩
 by_cases hnil:l = []
 ·subst hnil;refine (h0 a cap ⟨sep.toArray⟩ w).mono ?_
  rintro e w' ⟨he,rfl⟩
  exact fin e w' he (RowKit.Below.refl _ _)
 ·have hpos:0<l.length:=List.length_pos_iff.2 hnil;obtain ⟨bk,o,rfl,hSb,_⟩:=hel 0 hpos
  have hx:=h1 bk o cap (l.map fun s=>⟨s.toArray⟩) ⟨sep.toArray⟩ w (fun j x hj=>by
   simp only [List.getElem?_map,Option.map_eq_some_iff] at hj;obtain ⟨s,hs,rfl⟩:=hj;have hjl:=(List.getElem?_eq_some_iff.1 hs).1;obtain ⟨b',off',e,_,vs',hl1,hc,hr⟩:=hel j hjl;cases e
   obtain ⟨u,rfl⟩:∃ u,vs' = [u]:=by
    match vs',hl1 with
    | [u],_=>exact ⟨u,rfl⟩
   have h3:=hc 0 (by simp);simp only [RdL,Rd] at hr;obtain ⟨_,rfl,_⟩:=hr;rw [cell?_at]
   have:l.getD j []=s:=by rw [gDe,hs];rfl
   rw [this] at h3
   simpa [MiS] using h3) (hS bk hSb) (by simpa using hl) (by simpa using hn) (by
    rw [List.map_map,join_same]
    simpa [Function.comp_def] using hlen)
  rw [List.length_map] at hx;refine hx.mono ?_
  rintro e w' ⟨he,hb⟩
  rw [List.map_map,join_same] at he;refine fin e w' ?_ hb;simpa [Function.comp_def] using he
end Sx
namespace Sx
open Go
def isUp (x:UInt8):Bool:=decide (65<=(x.toNat:Int)) && decide ((x.toNat:Int)<=90)
def isLow (x:UInt8):Bool:=decide (97<=(x.toNat:Int)) && decide ((x.toNat:Int)<=122)
def isDig (x:UInt8):Bool:=decide (48<=(x.toNat:Int)) && decide ((x.toNat:Int)<=57)
def isPrn (x:UInt8):Bool:=decide (32<=(x.toNat:Int)) && decide ((x.toNat:Int)<=126)
def isSnd (y:UInt8):Bool:=decide (128<=(y.toNat:Int)) && decide ((y.toNat:Int)<=191)
def isPair (x y:UInt8):Bool:=decide ((x.toNat:Int)=195) && isSnd y
def replL:List Str:=[[97],[97],[97],[97],[97],[97],[97,101],[99],[101],[101],[101],[101],[105],[105],[105],[105],[100],[110],[111],[111],[111],[111],[111],[],[111],[117],[117],[117],[117],[121],[116,104],[115,115],
 [97],[97],[97],[97],[97],[97],[97,101],[99],[101],[101],[101],[101],[105],[105],[105],[105],[100],[110],[111],[111],[111],[111],[111],[],[111],[117],[117],[117],[117],[121],[116,104],[121]]
def repl (y:UInt8):Str:=replL.getD (y.toNat - 128) []
def plainS (x:UInt8):Str:=if isUp x=true then [x+32] else if isLow x=true\/isDig x=true then [x] else if x=39 then [] else [32]
def validL:Str->Bool
 | []=>true| [x]=>isPrn x
 | x :: y :: l=>if isPair x y=true then validL l else isPrn x && validL (y :: l)
def rawL:Str->Str
 | []=>[]| [x]=>plainS x
 | x :: y :: l=>if isPair x y=true then repl y ++ rawL l else plainS x ++ rawL (y :: l)
def validS (s:Str):Bool:=validL s && decide (s.length<=64)
def foldS (s:Str):Str:=joinS [32] (toks (rawL s))
def pairAt (s:Str) (i:Nat):Bool:=decide (i+1<s.length) && isPair (s.getD i 0) (s.getD (i+1) 0)
theorem validL_pair {s:Str} {i:Nat} (h:pairAt s i=true):validL (s.drop i)=validL (s.drop (i+2)):=by
 simp only [pairAt,bat,decide_eq_true_eq] at h;rw [drop_step s 0 i (by omega),drop_step s 0 (i+1) (by omega),validL,if_pos h.2]
theorem validL_one {s:Str} {i:Nat} (hi:i<s.length) (h:pairAt s i=false):validL (s.drop i)=(isPrn (s.getD i 0) && validL (s.drop (i+1))):=by
 rw [drop_step s 0 i hi];by_cases h1:i+1<s.length
 ·rw [drop_step s 0 (i+1) h1,validL,if_neg];simpa [pairAt,h1] using h
 ·rw [ddl (by omega),validL];simp [validL]
theorem rawL_pair {s:Str} {i:Nat} (h:pairAt s i=true):rawL (s.drop i)=repl (s.getD (i+1) 0) ++ rawL (s.drop (i+2)):=by
 simp only [pairAt,bat,decide_eq_true_eq] at h;rw [drop_step s 0 i (by omega),drop_step s 0 (i+1) (by omega),rawL,if_pos h.2]
theorem rawL_one {s:Str} {i:Nat} (hi:i<s.length) (h:pairAt s i=false):rawL (s.drop i)=plainS (s.getD i 0) ++ rawL (s.drop (i+1)):=by
 rw [drop_step s 0 i hi];by_cases h1:i+1<s.length
 ·rw [drop_step s 0 (i+1) h1,rawL,if_neg];simpa [pairAt,h1] using h
 ·rw [ddl (by omega),rawL];simp [rawL]
def isAn (x:UInt8):Bool:=isLow x || isDig x
def addOK (t:Str):Bool:=(t.all isAn && decide (t.length<=2)) || decide (t = [32])
theorem all_u8 {p:UInt8->Bool} (h:(List.range 256).all fun n=>p (UInt8.ofNat n)) (x:UInt8):p x=true:=by
 have:=List.all_eq_true.1 h x.toNat (List.mem_range.2 (UInt8.toNat_lt x));simpa using this
theorem plain_add (x:UInt8):addOK (plainS x)=true:=all_u8 (p:=fun x=>addOK (plainS x)) (by decide +kernel) x
theorem repl_ok:∀ t ∈ replL,t.all isAn=true/\t.length<=2:=by decide
theorem repl_add (y:UInt8):(repl y).all isAn=true/\(repl y).length<=2:=by
 unfold repl;by_cases h:y.toNat - 128<replL.length
 ·exact repl_ok _ (getD_in h)
 ·rw [gDe,List.getElem?_eq_none (by omega)];exact ⟨rfl,by decide⟩
theorem an_ne {x:UInt8} (h:isAn x=true):x≠32:=fun e=>by subst e;revert h;decide
theorem rawL_len:∀ s:Str,(rawL s).length<=2*s.length
 | []=>by simp [rawL]
 | [x]=>by
   have:=plain_add x;simp only [addOK,Bool.or_eq_true,bat,decide_eq_true_eq] at this;simp only [rawL,List.length_cons,List.length_nil]
   rcases this with h | h
   ·omega
   ·rw [h];simp
 | x :: y :: l=>by
   simp only [rawL];split
   ·have:=rawL_len l;have:=(repl_add y).2;simp only [lap,List.length_cons];omega
   ·have:=rawL_len (y :: l);have h2:=plain_add x;simp only [addOK,Bool.or_eq_true,bat,decide_eq_true_eq] at h2;simp only [lap,List.length_cons] at this ⊢
    rcases h2 with h | h
    ·omega
    ·rw [h];simp;omega
theorem rawL_chars:∀ (s:Str),∀ x ∈ rawL s,isAn x=true\/x=32
 | [],x,h=>by simp [rawL] at h
 | [y],x,h=>by
   have:=plain_add y;simp only [addOK,Bool.or_eq_true,bat,decide_eq_true_eq,List.all_eq_true] at this;simp only [rawL] at h
   rcases this with h1 | h1
   ·exact .inl (h1.1 x h)
   ·rw [h1] at h;exact .inr (List.mem_singleton.1 h)
 | y :: z :: l,x,h=>by
   simp only [rawL] at h;split at h
   ·rcases List.mem_append.1 h with h | h
    ·exact .inl (List.all_eq_true.1 (repl_add z).1 x h)
    ·exact rawL_chars l x h
   ·rcases List.mem_append.1 h with h | h
    ·have:=plain_add y;simp only [addOK,Bool.or_eq_true,bat,decide_eq_true_eq,List.all_eq_true] at this
     rcases this with h1 | h1
     ·exact .inl (h1.1 x h)
     ·rw [h1] at h;exact .inr (List.mem_singleton.1 h)
    ·exact rawL_chars (z :: l) x h
def opt (p:Str):List Str:=if p = [] then [] else [p]
theorem toksF_nil (p:Str):toksF p []=opt p:=rfl
theorem toksF_sp (p l:Str):toksF p (32 :: l)=opt p ++ toksF [] l:=by
 rw [toksF,if_pos rfl];unfold opt;split<;>rfl
theorem toksF_mem:∀ (l p t:Str),t ∈ toksF p l->t≠[]/\∀ x ∈ t,x ∈ p\/(x ∈ l/\x≠32)
 | [],p,t,h=>by
   rw [toksF_nil] at h;unfold opt at h;split at h
   ·cases h
   ·rw [List.mem_singleton.1 h];exact ⟨‹_›,fun x hx=>.inl hx⟩
 | y :: l,p,t,h=>by
   by_cases hy:y=32
   ·subst hy;rw [toksF_sp] at h
    rcases List.mem_append.1 h with h | h
    ·unfold opt at h;split at h
     ·cases h
     ·rw [List.mem_singleton.1 h];exact ⟨‹_›,fun x hx=>.inl hx⟩
    ·have:=toksF_mem l [] t h;exact ⟨this.1,fun x hx=>(this.2 x hx).elim (fun h=>by cases h) (fun h=>.inr ⟨by simp [h.1],h.2⟩)⟩
   ·rw [toksF,if_neg hy] at h;have:=toksF_mem l _ t h;refine ⟨this.1,fun x hx=>?_⟩
    rcases this.2 x hx with h | h
    ·rcases List.mem_append.1 h with h | h
     ·exact .inl h
     ·rw [List.mem_singleton.1 h];exact .inr ⟨by simp,hy⟩
    ·exact .inr ⟨by simp [h.1],h.2⟩
theorem joinS_opt (acc:List Str) (p:Str):joinS [32] (acc ++ opt p)=if p = [] then joinS [32] acc else if acc = [] then p else joinS [32] acc ++ [32] ++ p:=by
 unfold opt;split
 ·simp
 ·rw [joinS_snoc]
theorem join_toksF:∀ (l p:Str) (acc:List Str),(joinS [32] (acc ++ toksF p l)).length<=(joinS [32] acc).length+1+p.length+l.length/\(acc = []->(joinS [32] (toksF p l)).length<=p.length+l.length)
 | [],p,acc=>by
   rw [toksF_nil];constructor
   ·rw [joinS_opt];split
    ·simp;omega
    ·split
     ·rename_i h;subst h;simp
     ·simp;omega
   ·intro _;unfold opt;split
    ·simp [joinS]
    ·simp [joinS,tailS]
 | y :: l,p,acc=>by
   by_cases hy:y=32
   ·subst hy;rw [toksF_sp,<-List.append_assoc];have h1:=join_toksF l [] (acc ++ opt p);rw [joinS_opt] at h1;constructor
    ·refine Nat.le_trans h1.1 ?_;split
     ·simp;omega
     ·split
      ·rename_i h;subst h;simp [joinS];omega
      ·simp;omega
    ·intro _;by_cases hp:p = []
     ·subst hp;have:=(join_toksF l [] []).2 rfl;simp [opt] at this ⊢;omega
     ·have:=(join_toksF l [] [p]).1
      have e1:joinS [32] [p]=p:=by simp [joinS,tailS]
      rw [e1] at this;simp only [opt,hp,if_false,List.length_cons,List.length_nil] at this ⊢;omega
   ·rw [toksF,if_neg hy];have h1:=join_toksF l (p ++ [y]) acc;simp only [lap,List.length_cons,List.length_nil] at h1 ⊢;exact ⟨by omega,fun h=>by have:=h1.2 h;omega⟩
theorem foldS_len (s:Str):(foldS s).length<=2*s.length:=by
 have:=(join_toksF (rawL s) [] []).2 rfl;have h2:=rawL_len s;unfold foldS toks;simp at this;omega
theorem toks_count:∀ (l p:Str),(toksF p l).length<=1+l.length
 | [],p=>by rw [toksF_nil];unfold opt;split<;>simp
 | y :: l,p=>by
   by_cases hy:y=32
   ·subst hy;rw [toksF_sp];have:=toks_count l []
    have:(opt p).length<=1:=by unfold opt;split<;>simp
    simp only [lap,List.length_cons];omega
   ·rw [toksF,if_neg hy];have:=toks_count l (p ++ [y]);simp only [List.length_cons];omega
structure FoldI (s:Str) (i:Nat) (out:Str) (sep:Bool):Prop where
 ok:∃ acc part,out=joinS [32] (acc ++ opt part)/\(part≠[]->sep=false)/\(part = []->acc≠[]->sep=true)/\(∀ t ∈ acc,t≠[])/\toks (rawL s)=acc ++ toksF part (rawL (s.drop i))
theorem toksF_add:∀ (a p l:Str),(∀ x ∈ a,x≠32)->toksF p (a ++ l)=toksF (p ++ a) l
 | [],p,l,_=>by simp
 | x :: a,p,l,h=>by
   rw [List.cons_append,toksF,if_neg (h x (by simp)),toksF_add a _ l fun y hy=>h y (by simp [hy])];simp
theorem FoldI.start (s:Str):FoldI s 0 [] false:=⟨[],[],rfl,fun h=>rfl,fun _ h=>absurd rfl h,nofun,by simp [toks]⟩
theorem FoldI.no {s out:Str} {i j:Nat} {sep:Bool} (H:FoldI s i out sep) (h:rawL (s.drop i)=rawL (s.drop j)):FoldI s j out sep:=by
 obtain ⟨acc,part,h1,h2,h3,h4,h5⟩:=H.ok;exact ⟨acc,part,h1,h2,h3,h4,by rw [h5,h]⟩
theorem FoldI.sp {s out:Str} {i j:Nat} {sep:Bool} (H:FoldI s i out sep) (h:rawL (s.drop i)=32 :: rawL (s.drop j)):FoldI s j out true:=by
 obtain ⟨acc,part,h1,h2,h3,h4,h5⟩:=H.ok;refine ⟨acc ++ opt part,[],by simpa [opt] using h1,fun h=>absurd rfl h,fun _ _=>rfl,fun t ht=>?_,by rw [h5,h,toksF_sp,List.append_assoc]⟩
 rcases List.mem_append.1 ht with h | h
 ·exact h4 t h
 ·unfold opt at h;split at h
  ·cases h
  ·rw [List.mem_singleton.1 h];assumption
theorem joinS_nil {acc:List Str} (h4:∀ t ∈ acc,t≠[]) (h:joinS [32] acc = []):acc = []:=by
 cases acc with
 | nil=>rfl
 | cons t l=>simp [joinS] at h;exact absurd h.1 (h4 t (by simp))
theorem FoldI.add {s out a:Str} {i j:Nat} {sep:Bool} (H:FoldI s i out sep) (h:rawL (s.drop i)=a ++ rawL (s.drop j)) (ha:a≠[]) (hs:∀ x ∈ a,x≠32) :
 (sep=true->out≠[]->FoldI s j (out ++ [32] ++ a) false)/\(sep=false\/out = []->FoldI s j (out ++ a) false):=by
 obtain ⟨acc,part,h1,h2,h3,h4,h5⟩:=H.ok
 have hpa:part ++ a≠[]:=by simp [ha]
 have h6:toks (rawL s)=acc ++ toksF (part ++ a) (rawL (s.drop j)):=by rw [h5,h,toksF_add _ _ _ hs]
 constructor
 ·intro e1 e2
  have hp:part = []:=Classical.byContradiction fun hp=>by rw [h2 hp] at e1;cases e1
  subst hp
  have hacc:acc≠[]:=fun e=>e2 (by rw [h1,e];rfl)
  refine ⟨acc,a,?_,fun _=>rfl,fun e=>absurd e ha,h4,by simpa using h6⟩;rw [joinS_opt,if_neg ha,if_neg hacc,h1];simp [opt]
 ·intro e;refine ⟨acc,part ++ a,?_,fun _=>rfl,fun e=>absurd e hpa,h4,h6⟩;rw [joinS_opt,if_neg hpa,h1,joinS_opt];by_cases hp:part = []
  ·subst hp;by_cases hacc:acc = []
   ·subst hacc;simp [joinS]
   ·rcases e with e | e
    ·rw [h3 rfl hacc] at e;cases e
    ·rw [h1] at e;exact absurd (joinS_nil h4 (by simpa [opt] using e)) hacc
  ·rw [if_neg hp]
   split<;>simp
theorem FoldI.done {s out:Str} {i:Nat} {sep:Bool} (H:FoldI s i out sep) (h:s.length<=i):out=foldS s:=by
 obtain ⟨acc,part,h1,h2,h3,h4,h5⟩:=H.ok;rw [h1,foldS,h5,ddl h,rawL,toksF_nil]
end Sx
namespace Sx
open Go
theorem plain_len1 (x:UInt8):(plainS x).length<=1:=by
 have:=all_u8 (p:=fun x=>decide ((plainS x).length<=1)) (by decide +kernel) x;simpa using this
theorem rawL_le:∀ s:Str,(rawL s).length<=s.length
 | []=>by simp [rawL]
 | [x]=>plain_len1 x
 | x :: y :: l=>by
   simp only [rawL];split
   ·have:=rawL_le l;have:=(repl_add y).2;simp only [lap,List.length_cons];omega
   ·have:=rawL_le (y :: l);have:=plain_len1 x;simp only [lap,List.length_cons] at *;omega
theorem foldS_le (s:Str):(foldS s).length<=s.length:=by
 have:=(join_toksF (rawL s) [] []).2 rfl;have h2:=rawL_le s;unfold foldS toks;simp at this;omega
def foldedC (s:Str):Prop:=∀ x ∈ s,isAn x=true\/x=32
theorem plain_an:∀ x:UInt8,isAn x=true\/x=32->plainS x = [x]/\isPrn x=true:=fun x h=>by
 have:=all_u8 (p:=fun x=>!(isAn x || decide (x=32)) || (decide (plainS x = [x]) && isPrn x)) (by decide +kernel) x
 have h2:(isAn x || decide (x=32))=true:=by simpa using h
 simpa [h2] using this
theorem prn_not {x:UInt8} (y:UInt8) (h:isPrn x=true):isPair x y=false:=by
 have:=all_u8 (p:=fun x=>!(isPrn x) || !decide ((x.toNat:Int)=195)) (by decide +kernel) x;simp only [h,Bool.not_true,Bool.false_or,Bool.not_eq_true',decide_eq_false_iff_not] at this;simp [isPair,this]
theorem rawL_prn:∀ s:Str,(∀ x ∈ s,isPrn x=true)->validL s=true/\rawL s=s.flatMap plainS
 | [],_=>⟨rfl,rfl⟩| [x],h=>⟨h x (by simp),by simp [rawL]⟩
 | x :: y :: l,h=>by
   have hx:=h x (by simp)
   have ih:=rawL_prn (y :: l) fun z hz=>h z (by simp [hz])
   simp only [validL,rawL,prn_not y hx,bft,if_false,hx,Bool.true_and];exact ⟨ih.1,by rw [ih.2];simp⟩
theorem rawL_an (s:Str) (h:foldedC s):validL s=true/\rawL s=s:=by
 have h1:=rawL_prn s fun x hx=>(plain_an x (h x hx)).2
 refine ⟨h1.1,h1.2.trans ?_⟩;clear h1
 induction s with
 | nil=>rfl
 | cons x l ih=>rw [List.flatMap_cons,(plain_an x (h x (by simp))).1,ih fun y hy=>h y (by simp [hy])];rfl
def tokL (l:List Str):Prop:=∀ t ∈ l,t≠[]/\∀ x ∈ t,x≠32
theorem toks_tokL (s:Str):tokL (toks s):=fun t ht =>
 let h:=toksF_mem s [] t ht
 ⟨h.1,fun x hx=>(h.2 x hx).elim (fun h=>by cases h) fun h=>h.2⟩
theorem toks_tail:∀ (l:List Str) (p:Str),tokL l->toksF p (tailS [32] l)=opt p ++ l
 | [],p,_=>by simp [tailS,toksF_nil]
 | t :: l,p,h=>by
   have ht:=h t (by simp)
   have e:tailS [32] (t :: l)=32 :: (t ++ tailS [32] l):=by simp [tailS]
   rw [e,toksF_sp,toksF_add _ _ _ ht.2,toks_tail l _ fun u hu=>h u (by simp [hu])];simp [opt,ht.1]
theorem toks_join (l:List Str) (h:tokL l):toks (joinS [32] l)=l:=by
 cases l with
 | nil=>rfl
 | cons t l =>
   have ht:=h t (by simp);unfold toks joinS;rw [toksF_add _ _ _ ht.2,toks_tail l _ fun u hu=>h u (by simp [hu])];simp [opt,ht.1]
theorem join_mem {l:List Str} {x:UInt8} (h:x ∈ joinS [32] l):x=32\/∃ t ∈ l,x ∈ t:=by
 cases l with
 | nil=>cases h
 | cons t l =>
   rcases List.mem_append.1 h with h | h
   ·exact .inr ⟨t,by simp,h⟩
   ·simp only [tailS,List.mem_flatten,List.mem_map] at h;obtain ⟨u,⟨v,hv,rfl⟩,hx⟩:=h
    rcases List.mem_append.1 hx with h | h
    ·exact .inl (List.mem_singleton.1 h)
    ·exact .inr ⟨v,by simp [hv],h⟩
theorem foldS_chars (s:Str):foldedC (foldS s):=fun x hx=>by
 rcases join_mem hx with h | ⟨t,ht,hx⟩
 ·exact .inr h
 ·rcases (toksF_mem (rawL s) [] t ht).2 x hx with h | h
  ·cases h
  ·exact rawL_chars s x h.1
theorem foldS_fix (s:Str) (h:foldedC s):foldS s=joinS [32] (toks s):=by rw [foldS,(rawL_an s h).2]
theorem foldS_twice (s:Str):foldS (foldS s)=foldS s:=by
 rw [foldS_fix _ (foldS_chars s)]
 conv=>lhs;arg 2;arg 1;rw [foldS]
 rw [toks_join _ (toks_tokL _)];rfl
theorem validS_an (s:Str) (h:foldedC s) (hl:s.length<=64):validS s=true:=by
 rw [validS,(rawL_an s h).1,Bool.true_and];exact decide_eq_true hl
theorem toksF_dup:∀ (a p l:Str),toksF p (a ++ 32 :: 32 :: l)=toksF p (a ++ 32 :: l)
 | [],p,l=>by simp only [List.nil_append];rw [toksF_sp,toksF_sp,toksF_sp];simp [opt]
 | x :: a,p,l=>by
   simp only [List.cons_append];by_cases hx:x=32
   ·subst hx;rw [toksF_sp,toksF_sp,toksF_dup a [] l]
   ·rw [toksF,if_neg hx,toksF,if_neg hx,toksF_dup a _ l]
theorem toksF_end:∀ (a p:Str),toksF p (a ++ [32])=toksF p a
 | [],p=>by simp only [List.nil_append];rw [toksF_sp,toksF_nil,toksF_nil];simp [opt]
 | x :: a,p=>by
   simp only [List.cons_append];by_cases hx:x=32
   ·subst hx;rw [toksF_sp,toksF_sp,toksF_end a []]
   ·rw [toksF,if_neg hx,toksF,if_neg hx,toksF_end a _]
structure DrI (t o:Str):Prop where
 prn:∀ x ∈ o,isPrn x=true
 tok:∀ l,toks (o.flatMap plainS ++ l)=toks (t ++ l)
theorem DrI.app {t o a b:Str} (H:DrI t o) (ha:∀ x ∈ a,isPrn x=true) (h:∀ u l,toks (u ++ (a.flatMap plainS ++ l))=toks (u ++ (b ++ l))):DrI (t ++ b) (o ++ a) :=
 ⟨fun x hx=>(List.mem_append.1 hx).elim (H.prn x) (ha x),fun l=>by
  rw [List.flatMap_append,List.append_assoc,H.tok,h,List.append_assoc]⟩
theorem DrI.same {t o a b:Str} (H:DrI t o) (ha:∀ x ∈ a,isPrn x=true) (h:a.flatMap plainS=b):DrI (t ++ b) (o ++ a):=H.app ha fun u l=>by rw [h]
def sepB (a:Str):Bool:=a.all isPrn && (a.flatMap plainS == [32] || a.flatMap plainS == [32,32])
theorem DrI.sep {t o a:Str} (H:DrI t o) (h:sepB a=true):DrI (t ++ [32]) (o ++ a):=by
 simp only [sepB,bat,Bool.or_eq_true,beq_iff_eq,List.all_eq_true] at h
 refine H.app h.1 fun u l=>?_
 rcases h.2 with e | e
 ·rw [e]
 ·rw [e];exact toksF_dup u [] l
def endB (a:Str):Bool:=a.all isPrn && (a.flatMap plainS == [] || a.flatMap plainS == [32])
theorem DrI.start {a:Str} (h:endB a=true):DrI [] a:=by
 simp only [endB,bat,Bool.or_eq_true,beq_iff_eq,List.all_eq_true] at h;refine ⟨h.1,fun l=>?_⟩
 rcases h.2 with e | e
 ·rw [e]
 ·rw [e];unfold toks;exact (toksF_sp [] l).trans (by simp [opt])
theorem DrI.done {t o a:Str} (H:DrI t o) (h:endB a=true):validL (o ++ a)=true/\toks (rawL (o ++ a))=toks t:=by
 simp only [endB,bat,Bool.or_eq_true,beq_iff_eq,List.all_eq_true] at h
 have hp:∀ x ∈ o ++ a,isPrn x=true:=fun x hx=>(List.mem_append.1 hx).elim (H.prn x) (h.1 x)
 obtain ⟨h1,h2⟩:=rawL_prn _ hp;refine ⟨h1,?_⟩;rw [h2,List.flatMap_append,H.tok]
 rcases h.2 with e | e
 ·rw [e,List.append_nil]
 ·rw [e];exact toksF_end t []
def Fixed (s:Str):Prop:=foldedC s/\joinS [32] (toks s)=s
theorem foldS_fixed (s:Str):Fixed (foldS s):=⟨foldS_chars s,by
 have:=foldS_twice s
 rwa [foldS_fix _ (foldS_chars s)] at this⟩
def foldO (s:Str):Str:=if validS s=true then foldS s else []
def foldE (s:Str):Int:=if validS s=true then 0 else 3
end Sx
namespace Sx
open Go
abbrev Pr:=Str × Str
abbrev less (a b:Str):Bool:=Op.bytesLess a b
theorem range_step {n i:Nat} (f:Nat->Bool) (h:i<n):((List.range n).drop i).all f=(f i && ((List.range n).drop (i+1)).all f):=by
 have hl:(List.range n).length=n:=List.length_range;rw [drop_step (List.range n) 0 i (by omega),List.all_cons]
 congr 2
 rw [gDe,List.getElem?_eq_getElem (by omega),Option.getD_some,List.getElem_range]
theorem range_end {n:Nat} (f:Nat->Bool):((List.range n).drop n).all f=true:=by
 rw [ddl (by simp)];rfl
def lettersS (s:Str):Str:=s.filter isLow
def tkn (s:Str):Bool:=!decide (s = []) && decide (s.length<=64) && decide (lettersS s=s)
def hasS (l:List Str) (s:Str):Bool:=l.any fun x=>decide (x=s)
def tAt (l:List Str) (j:Nat):Bool:=tkn (l.getD j []) && (decide (j=0) || less (l.getD (j - 1) []) (l.getD j []))
def titlesB (l:List Str):Bool:=(List.range l.length).all (tAt l)
def aAt (l:List Str) (j:Nat):Bool:=less (l.getD (j - 1) []) (l.getD j [])
def ascB (l:List Str):Bool:=((List.range l.length).drop 1).all (aAt l)
def pGet (l:List Pr) (j:Nat):Pr:=l.getD j ([],[])
def froms (l:List Pr):List Str:=l.map (·.1)
def pAt (l:List Pr) (j:Nat):Bool:=tkn (pGet l j).1 && tkn (pGet l j).2 && (decide (j=0) || less (pGet l (j - 1)).1 (pGet l j).1) && !hasS (froms l) (pGet l j).2
def pairsB (l:List Pr):Bool:=(List.range l.length).all (pAt l)
theorem mem_drop1 {n j:Nat}:j ∈ (List.range n).drop 1 ↔ 1<=j/\j<n:=by
 cases n with
 | zero=>simp
 | succ n =>
   rw [List.range_succ_eq_map];simp only [List.drop_succ_cons,List.drop_zero,List.mem_map,List.mem_range];constructor
   ·rintro ⟨a,h,rfl⟩;omega
   ·intro h;exact ⟨j - 1,by omega,by omega⟩
theorem titles_eq (l:List Str):titlesB l=(l.all tkn && ascB l):=by
 rw [Bool.eq_iff_iff,bat];simp only [titlesB,ascB,List.all_eq_true,List.mem_range,mem_drop1,tAt,aAt,bat,Bool.or_eq_true,decide_eq_true_eq];constructor
 ·intro h;refine ⟨fun x hx=>?_,fun j hj=>((h j hj.2).2).resolve_left (by omega)⟩;obtain ⟨j,hj,rfl⟩:=List.mem_iff_getElem.1 hx;have:=(h j hj).1
  rwa [gDe,List.getElem?_eq_getElem hj] at this
 ·intro h j hj;exact ⟨h.1 _ (getD_in hj),(Nat.eq_zero_or_pos j).imp id fun h0=>h.2 j ⟨h0,hj⟩⟩
theorem froms_len (l:List Pr):(froms l).length=l.length:=by simp [froms]
theorem froms_get (l:List Pr) (j:Nat):(froms l).getD j []=(pGet l j).1:=by
 simp only [froms,pGet,gDe,List.getElem?_map]
 cases l[j]?<;>rfl
theorem pairs_eq (l:List Pr):pairsB l=((l.all fun p=>tkn p.1 && tkn p.2) && ((l.all fun p=>!hasS (froms l) p.2) && ascB (froms l))):=by
 rw [Bool.eq_iff_iff,bat,bat];simp only [pairsB,ascB,List.all_eq_true,List.mem_range,mem_drop1,pAt,aAt,bat,Bool.or_eq_true,decide_eq_true_eq,froms_len,froms_get]
 have g:∀ x ∈ l,∃ j,j<l.length/\pGet l j=x:=fun x hx=>by
  obtain ⟨j,hj,rfl⟩:=List.mem_iff_getElem.1 hx;exact ⟨j,hj,by rw [pGet,gDe,List.getElem?_eq_getElem hj];rfl⟩
 constructor
 ·intro h;refine ⟨fun x hx=>?_,fun x hx=>?_,fun j hj=>(h j hj.2).1.2.resolve_left (by omega)⟩
  ·obtain ⟨j,hj,rfl⟩:=g x hx;exact (h j hj).1.1
  ·obtain ⟨j,hj,rfl⟩:=g x hx;exact (h j hj).2
 ·intro h j hj;exact ⟨⟨h.1 _ (getD_in hj),(Nat.eq_zero_or_pos j).imp id fun h0=>h.2.2 j ⟨h0,hj⟩⟩,h.2.1 _ (getD_in hj)⟩
def replS (l:List Pr) (s:Str):Str:=match l.find? fun p=>decide (p.1=s) with
 | some p=>p.2| none=>s
def idxF {α:Type} (p:α->Bool):List α->Int
 | []=>-1
 | x :: l=>if p x=true then 0 else bif decide (idxF p l<0) then -1 else idxF p l+1
theorem idxF_neg {α:Type} (p:α->Bool):∀ l:List α,idxF p l<0 ↔ l.any p=false
 | []=>by simp [idxF]
 | x :: l=>by
   have ih:=idxF_neg p l;rw [idxF,List.any_cons];by_cases h:p x=true
   ·simp [h]
   ·rw [if_neg h]
    have h' : p x=false:=by simpa using h
    rw [h',Bool.false_or,<-ih];by_cases h2:idxF p l<0
    ·simp [h2]
    ·simp [h2];omega
structure Ru where
 t:List Str
 n:List Pr
 s:List Pr
def checkE (r:Ru):Int :=
 if r.t.length<=32/\r.n.length<=32/\r.s.length<=32 then
  (if (titlesB r.t && pairsB r.n && pairsB r.s && !(r.n.any fun p=>hasS r.t p.2))=true then 0 else 5)
 else 1
def keepL (r:Ru) (l:List Str):List Str:=((l.map lettersS).filter fun x=>!decide (x = []) && !hasS r.t x).map (replS r.n)
theorem less_tot:∀ a b:Str,(less a b || decide (a=b)) = !less b a
 | [],[]=>by simp [less,Op.bytesLess]
 | [],y :: b=>by simp [less,Op.bytesLess]
 | x :: a,[]=>by simp [less,Op.bytesLess]
 | x :: a,y :: b=>by
   have ih:=less_tot a b;simp only [less] at ih;simp only [less,Op.bytesLess]
   rcases Nat.lt_trichotomy x.toNat y.toNat with h | h | h
   ·have h1:x<y:=h
    have h2:¬ y<x:=by show ¬ y.toNat<x.toNat;omega
    have h3:¬ y=x:=fun e=>by subst e;omega
    simp [h1,h2,h3]
   ·have e:x=y:=UInt8.toNat_inj.1 h;subst e
    have h2:¬ x<x:=by show ¬ x.toNat<x.toNat;omega
    simp [h2,ih]
   ·have h1:y<x:=h
    have h2:¬ x<y:=by show ¬ x.toNat<y.toNat;omega
    have h3:¬ x=y:=fun e=>by subst e;omega
    simp [h1,h2,h3]
theorem idxF_no {α:Type} (p:α->Bool):∀ l:List α,l.any p=false->idxF p l = -1
 | [],_=>rfl
 | x :: l,h=>by
   rw [List.any_cons,Bool.or_eq_false_iff] at h;rw [idxF,if_neg (by simp [h.1]),idxF_no p l h.2];rfl
theorem idxF_at {α:Type} (p:α->Bool) (z:α):∀ (l:List α) (i:Nat),i<l.length->(l.take i).any p=false->p (l.getD i z)=true->idxF p l=i
 | [],i,hi,_,_=>by simp at hi
 | x :: l,0,_,_,h=>by simp at h;rw [idxF,if_pos h];rfl
 | x :: l,i+1,hi,h0,h=>by
   rw [List.take_succ_cons,List.any_cons,Bool.or_eq_false_iff] at h0;have ih:=idxF_at p z l i (by simpa using hi) h0.2 (by simpa using h);rw [idxF,if_neg (by simp [h0.1]),ih];have:decide ((i:Int)<0)=false:=decide_eq_false (by omega);rw [this];simp
theorem any_take {α:Type} (p:α->Bool) (l:List α) (z:α) (i:Nat) (h:i<l.length):(l.take (i+1)).any p=((l.take i).any p || p (l.getD i z)):=by
 rw [take_step l z i h];simp
theorem idxF_find {α:Type} (p:α->Bool) (z:α):∀ (l:List α),0<=idxF p l->(idxF p l).toNat<l.length/\l.find? p=some (l.getD (idxF p l).toNat z)
 | [],h=>by simp [idxF] at h
 | x :: l,h=>by
   by_cases hx:p x=true
   ·rw [idxF,if_pos hx];simp [hx]
   ·rw [idxF,if_neg hx] at h ⊢;by_cases h2:idxF p l<0
    ·rw [decide_eq_true h2] at h;simp at h
    ·rw [decide_eq_false h2];have ih:=idxF_find p z l (by omega);simp only [cond_false];rw [show (idxF p l+1).toNat=(idxF p l).toNat+1 by omega];refine ⟨by simp;exact ih.1,?_⟩;rw [List.find?_cons_of_neg hx,ih.2];simp
theorem find_none {α:Type} (p:α->Bool) (l:List α) (h:idxF p l<0):l.find? p=none:=by
 rw [idxF_neg] at h;rw [List.find?_eq_none];intro x hx hp;have:=List.any_eq_false.1 h x hx;exact this hp
theorem replS_at {l:List Pr} {s:Str} (h:0<=idxF (fun p:Pr=>decide (p.1=s)) l):replS l s=(pGet l (idxF (fun p:Pr=>decide (p.1=s)) l).toNat).2:=by
 rw [replS,(idxF_find _ ([],[]) l h).2];rfl
theorem replS_no {l:List Pr} {s:Str} (h:idxF (fun p:Pr=>decide (p.1=s)) l<0):replS l s=s:=by
 rw [replS,find_none _ _ h]
theorem replS_step {l:List Pr} {s:Str} {i:Nat} (h:i<l.length):replS (l.drop i) s=if (pGet l i).1=s then (pGet l i).2 else replS (l.drop (i+1)) s:=by
 rw [drop_step l ([],[]) i h];simp only [replS];by_cases e:(pGet l i).1=s
 ·rw [if_pos e,List.find?_cons_of_pos (by simpa [pGet] using e)];rfl
 ·rw [if_neg e,List.find?_cons_of_neg (by simpa [pGet] using e)]
theorem hasS_idx (l:List Str) (s:Str):decide (0<=idxF (fun x=>decide (x=s)) l)=hasS l s:=by
 have:=idxF_neg (fun x=>decide (x=s)) l;unfold hasS
 cases h:l.any fun x=>decide (x=s) with
 | true =>
   refine decide_eq_true (Int.not_lt.1 fun h2=>?_);rw [this.1 h2] at h;cases h
 | false=>have:=this.2 h;exact decide_eq_false (by omega)
theorem froms_has (l:List Pr) (s:Str):hasS (froms l) s=l.any fun p=>decide (p.1=s):=by simp [hasS,froms,List.any_map,Function.comp_def]
theorem find_idx (l:List Pr) (s:Str):decide (0<=idxF (fun p:Pr=>decide (p.1=s)) l)=hasS (froms l) s:=by
 have:=idxF_neg (fun p:Pr=>decide (p.1=s)) l;rw [froms_has]
 cases h:l.any fun p=>decide (p.1=s) with
 | true =>
   refine decide_eq_true (Int.not_lt.1 fun h2=>?_);rw [this.1 h2] at h;cases h
 | false=>have:=this.2 h;exact decide_eq_false (by omega)
theorem hasS_step {l:List Str} {s:Str} {i:Nat} (h:i<l.length):hasS (l.drop i) s=(decide (l.getD i []=s) || hasS (l.drop (i+1)) s):=by
 unfold hasS;rw [any_step _ l [] i h]
end Sx
namespace Sx
open Go
def normL (r:Ru) (s:Str):List Str:=keepL r (toks (foldO s))
def normOK (r:Ru) (s:Str):Bool:=decide ((normL r s).length<=6) && decide ((joinS [32] (normL r s)).length<=64)
def normE (r:Ru) (s:Str):Int:=if checkE r=0 then if foldE s=0 then if normOK r s=true then 0 else 1 else foldE s else checkE r
def normO (r:Ru) (s:Str):Str:=if normE r s=0 then joinS [32] (normL r s) else []
theorem keepL_app (r:Ru) (a b:List Str):keepL r (a ++ b)=keepL r a ++ keepL r b:=by simp [keepL]
theorem keepL_one (r:Ru) (x:Str):keepL r [x]=if lettersS x = [] then [] else if hasS r.t (lettersS x)=true then [] else [replS r.n (lettersS x)]:=by
 by_cases h1:lettersS x = []
 ·rw [if_pos h1];simp [keepL,h1]
 ·rw [if_neg h1];by_cases h2:hasS r.t (lettersS x)=true
  ·rw [if_pos h2];simp [keepL,h1,h2]
  ·rw [if_neg h2];simp [keepL,h1,h2]
theorem keepL_step (r:Ru) (l:List Str) (i:Nat) (h:i<l.length):keepL r (l.take (i+1))=keepL r (l.take i) ++ keepL r [l.getD i []]:=by
 rw [take_step l [] i h,keepL_app]
theorem keepL_len (r:Ru) (l:List Str):(keepL r l).length<=l.length:=by
 unfold keepL;rw [List.length_map];have:=List.length_filter_le (fun x=>!decide (x = []) && !hasS r.t x) (l.map lettersS)
 rwa [List.length_map] at this
theorem replS_mem (l:List Pr) (s:Str):(replS l s=s/\hasS (froms l) s=false)\/∃ p ∈ l,p.1=s/\replS l s=p.2:=by
 unfold replS
 cases h:l.find? fun p=>decide (p.1=s) with
 | none =>
   left
   refine ⟨rfl,?_⟩;rw [froms_has,List.any_eq_false]
   exact fun x hx=>List.find?_eq_none.1 h x hx
 | some p=>exact .inr ⟨p,List.mem_of_find?_eq_some h,by simpa using List.find?_some h,rfl⟩
theorem checkE_ok {r:Ru} (h:checkE r=0):(r.t.length<=32/\r.n.length<=32/\r.s.length<=32)/\titlesB r.t=true/\pairsB r.n=true/\pairsB r.s=true/\(r.n.any fun p=>hasS r.t p.2)=false:=by
 unfold checkE at h;split at h
 ·rename_i h1;split at h
  ·rename_i h2;simp only [bat,Bool.not_eq_true'] at h2;exact ⟨h1,h2.1.1.1,h2.1.1.2,h2.1.2,h2.2⟩
  ·cases h
 ·cases h
theorem pairs_tkn {l:List Pr} (h:pairsB l=true) {p:Pr} (hp:p ∈ l):tkn p.1=true/\tkn p.2=true/\hasS (froms l) p.2=false:=by
 rw [pairs_eq,bat,bat] at h;have h1:=List.all_eq_true.1 h.1 p hp;have h2:=List.all_eq_true.1 h.2.1 p hp;simp only [bat] at h1;exact ⟨h1.1,h1.2,by simpa using h2⟩
theorem tkn_of {s:Str} (h:tkn s=true):s≠[]/\s.length<=64/\lettersS s=s:=by
 simpa [tkn,and_assoc] using h
theorem letters_fix {s:Str}:lettersS s=s ↔ ∀ x ∈ s,isLow x=true:=by
 unfold lettersS;exact List.filter_eq_self
theorem letters_len (s:Str):(lettersS s).length<=s.length:=List.length_filter_le _ _
theorem join_mem_len:∀ {l:List Str} {t:Str},t ∈ l->t.length<=(joinS [32] l).length:=fun {l t} h=>by
 cases l with
 | nil=>cases h
 | cons u l =>
   have g:∀ l:List Str,t ∈ l->t.length<=(tailS [32] l).length:=fun l=>by
    induction l with
    | nil=>intro h;cases h
    | cons v l ih =>
      intro h
      have e:tailS [32] (v :: l)=32 :: (v ++ tailS [32] l):=by simp [tailS]
      rw [e]
      rcases List.mem_cons.1 h with rfl | h
      ·simp;omega
      ·have:=ih h;simp;omega
   unfold joinS
   rcases List.mem_cons.1 h with rfl | h
   ·simp
   ·have:=g l h;simp;omega
theorem foldO_fixed (s:Str):Fixed (foldO s):=by
 unfold foldO;split
 ·exact foldS_fixed s
 ·exact ⟨nofun,rfl⟩
theorem foldO_le (s:Str):(foldO s).length<=s.length:=by
 unfold foldO;split
 ·exact foldS_le s
 ·simp
theorem keep_len {r:Ru} (hr:checkE r=0) (s:Str):∀ t ∈ keepL r (toks (foldO s)),t.length<=64+s.length:=fun t ht=>by
 simp only [keepL,List.mem_map,List.mem_filter] at ht;obtain ⟨y,⟨⟨x,hx,rfl⟩,_⟩,rfl⟩:=ht
 rcases replS_mem r.n (lettersS x) with ⟨e,_⟩ | ⟨p,hp,_,e⟩
 ·rw [e];have h1:=letters_len x;have h2:=join_mem_len hx;rw [(foldO_fixed s).2] at h2;have:=foldO_le s;omega
 ·rw [e];have:=(tkn_of (pairs_tkn (checkE_ok hr).2.2.1 hp).2.1).2.1;omega
end Sx
namespace Sx
open Go
structure Good (r:Ru) (y:Str):Prop where
 ne:y≠[]
 lo:∀ x ∈ y,isLow x=true
 nt:hasS r.t y=false
 nr:replS r.n y=y
theorem replS_id {l:List Pr} {s:Str} (h:hasS (froms l) s=false):replS l s=s:=by
 rcases replS_mem l s with ⟨e,_⟩ | ⟨p,hp,e1,_⟩
 ·exact e
 ·rw [froms_has,List.any_eq_false] at h;exact absurd (decide_eq_true e1) (h p hp)
theorem keep_good {r:Ru} (hr:checkE r=0) (l:List Str):∀ y ∈ keepL r l,Good r y:=fun y hy=>by
 simp only [keepL,List.mem_map,List.mem_filter,bat,Bool.not_eq_true',decide_eq_false_iff_not] at hy;obtain ⟨z,⟨⟨x,hx,rfl⟩,h1,h2⟩,rfl⟩:=hy;obtain ⟨_,_,hp,_,hd⟩:=checkE_ok hr
 rcases replS_mem r.n (lettersS x) with ⟨e,h⟩ | ⟨p,hpm,_,e⟩
 ·rw [e];exact ⟨h1,fun y hy=>(List.mem_filter.1 hy).2,h2,e⟩
 ·rw [e];obtain ⟨_,h3,h4⟩:=pairs_tkn hp hpm;obtain ⟨t1,_,t3⟩:=tkn_of h3;exact ⟨t1,letters_fix.1 t3,by simpa using List.any_eq_false.1 hd p hpm,replS_id h4⟩
theorem keep_same {r:Ru}:∀ {l:List Str},(∀ y ∈ l,Good r y)->keepL r l=l
 | [],_=>rfl
 | y :: l,h=>by
   have hy:=h y (by simp);have e:keepL r (y :: l)=keepL r [y] ++ keepL r l:=keepL_app r [y] l;rw [e,keepL_one,letters_fix.2 hy.lo,if_neg hy.ne,if_neg (by rw [hy.nt];simp),hy.nr,keep_same fun z hz=>h z (by simp [hz])];rfl
theorem low_an {x:UInt8} (h:isLow x=true):isAn x=true:=by rw [isAn,h];rfl
theorem good_tokL {r:Ru} {l:List Str} (h:∀ y ∈ l,Good r y):tokL l:=fun t ht=>⟨(h t ht).ne,fun x hx=>an_ne (low_an ((h t ht).lo x hx))⟩
theorem low_fixed {l:List Str} (h:tokL l) (h2:∀ y ∈ l,∀ x ∈ y,isLow x=true):Fixed (joinS [32] l):=⟨fun x hx=>by
 rcases join_mem hx with e | ⟨t,ht,hx⟩
 ·exact .inr e
 ·exact .inl (low_an (h2 t ht x hx)),by rw [toks_join l h]⟩
theorem fixed_fold {w:Str} (h:Fixed w) (hl:w.length<=64):foldE w=0/\foldO w=w:=by
 have hv:=validS_an w h.1 hl;refine ⟨by rw [foldE,if_pos hv],by rw [foldO,if_pos hv];exact (foldS_fix w h.1).trans h.2⟩
theorem norm_ok {r:Ru} {s:Str} (h:normE r s=0):checkE r=0/\foldE s=0/\(normL r s).length<=6/\(joinS [32] (normL r s)).length<=64/\normO r s=joinS [32] (normL r s):=by
 have hO:normO r s=joinS [32] (normL r s):=by rw [normO,if_pos h]
 unfold normE at h;split at h
 ·rename_i h1;split at h
  ·rename_i h2;split at h
   ·rename_i h3;simp only [normOK,bat,decide_eq_true_eq] at h3;exact ⟨h1,h2,h3.1,h3.2,hO⟩
   ·cases h
  ·rename_i h2;exact absurd h h2
 ·rename_i h1;exact absurd h h1
theorem norm_of {r:Ru} {s:Str} (h1:checkE r=0) (h2:foldE s=0) (h3:(normL r s).length<=6) (h4:(joinS [32] (normL r s)).length<=64):normE r s=0/\normO r s=joinS [32] (normL r s):=by
 have e:normE r s=0:=by
  rw [normE,if_pos h1,if_pos h2,if_pos];simp [normOK,h3,h4]
 exact ⟨e,by rw [normO,if_pos e]⟩
theorem norm_twice {r:Ru} {s:Str} (h:normE r s=0):normE r (normO r s)=0/\normO r (normO r s)=normO r s/\(toks (normO r s)).length<=6/\(normO r s).length<=64:=by
 obtain ⟨h1,h2,h3,h4,h5⟩:=norm_ok h;have hg:=keep_good h1 (toks (foldO s));have ht:=good_tokL hg;rw [h5]
 have hf:=low_fixed ht fun y hy=>(hg y hy).lo
 obtain ⟨e1,e2⟩:=fixed_fold hf h4;have hT:toks (joinS [32] (normL r s))=normL r s:=toks_join _ ht
 have hL:normL r (joinS [32] (normL r s))=normL r s:=by
  show keepL r (toks (foldO (joinS [32] (normL r s))))=_
  rw [show foldO (joinS [32] (normL r s))=joinS [32] (normL r s) from e2,hT];exact keep_same hg
 obtain ⟨n1,n2⟩:=norm_of (s:=joinS [32] (normL r s)) h1 e1 (by rw [hL];exact h3) (by rw [hL];exact h4);exact ⟨n1,by rw [n2,hL],by rw [hT];exact h3,h4⟩
end Sx
namespace Sx
open Go
structure Lett (t:Str):Prop where
 ne:1<=t.length
 le:t.length<=8
 lo:∀ x ∈ t,isLow x=true
theorem Lett.tok {t:Str} (h:Lett t):t≠[]/\∀ x ∈ t,x≠32:=⟨fun e=>by have:=h.ne;rw [e] at this;simp at this,fun x hx=>an_ne (low_an (h.lo x hx))⟩
theorem toks_sp2:∀ (a b p:Str),toksF p (a ++ 32 :: b)=toksF p a ++ toks b
 | [],b,p=>by rw [List.nil_append,toksF_sp,toksF_nil];rfl
 | x :: a,b,p=>by
   rw [List.cons_append];by_cases hx:x=32
   ·subst hx;rw [toksF_sp,toksF_sp,toks_sp2 a b [],List.append_assoc]
   ·rw [toksF,if_neg hx,toksF,if_neg hx,toks_sp2 a b _]
structure RuN (r:Ru):Prop where
 ok:checkE r=0
 ft:∀ p ∈ r.n,hasS r.t p.1=false/\hasS r.t p.2=false/\hasS (froms r.n) p.2=false/\Lett p.2
end Sx
namespace Sx
open Go
def pvD:D->Option Value
 | .int k n=>some (.int k n)| .str s=>some (.string ⟨s.toArray⟩)| .bool b=>some (.bool b)| .lit b=>some (.bool b)| _=>none
def pvL:List D->Option (List Value)
 | []=>some []
 | d :: l=>match pvD d,pvL l with
   | some v,some vs=>some (v :: vs)| _,_=>none
theorem pvD_od {M:Mi} {d:D} {v v' : Value} {F:List Nat} (h:pvD d=some v) (ho:Od M d v' F):v' = v/\F = []:=by
 cases d<;>simp only [pvD,Option.some.injEq,reduceCtorEq] at h<;>subst h<;>simp only [Od,Rd] at ho<;>exact ho
theorem pvL_od {M:Mi}:∀ {l:List D} {vs vs' : List Value} {F:List Nat},pvL l=some vs->OdT M l vs' F->vs' = vs/\F = []
 | [],vs,vs',F,h,ho=>by
   simp only [pvL,Option.some.injEq] at h;subst h
   cases vs' with
   | nil=>simpa [OdT] using ho| cons _ _=>simp [OdT] at ho
 | d :: l,vs,vs',F,h,ho=>by
   unfold pvL at h;split at h
   ·rename_i v us h1 h2;simp only [Option.some.injEq] at h;subst h
    cases vs' with
    | nil=>simp [OdT] at ho
    | cons a b =>
      simp only [OdT] at ho;obtain ⟨F1,F2,rfl,o1,o2⟩:=ho;obtain ⟨rfl,rfl⟩:=pvD_od h1 o1;obtain ⟨rfl,rfl⟩:=pvL_od h2 o2;exact ⟨rfl,rfl⟩
   ·cases h
theorem ioV_pv:∀ {l:List D} {vs:List Value},pvL l=some vs->∀ us,ioV l us = []
 | [],_,_,us=>by cases us<;>rfl
 | d :: l,vs,h,us=>by
   unfold pvL at h;split at h
   ·rename_i v ws h1 h2
    cases us with
    | nil=>cases d<;>simp [pvD] at h1<;>rfl
    | cons u us =>
      have:=ioV_pv h2 us
      cases d<;>simp only [pvD,reduceCtorEq] at h1<;>exact this
   ·cases h
theorem Ct.lib {P:Program} {g:FuncId} {args:List D} {vs:List Value} {r:D} {v:Value} (hfn:FnOK P g) (ha:pvL args=Option.some vs) (hr:∀ M,Od M r v [])
 (h:∀ w,Laid P w.heap (fun _=>False)->Calls P g ⟨vs⟩ w fun e w'=>e = .returned v/\RowKit.Below w.heap.size w w'):Ct P g args fun q outs=>q=r/\outs = []:=by
 refine ⟨hfn,fun w S0 us F hS hod hnd hFS=>?_⟩;obtain ⟨h1,rfl⟩:=pvL_od ha hod
 obtain rfl:us=⟨vs⟩:=by rw [<-h1]
 refine (h w fun x hx g hg=>⟨(hFS.2 x hx g hg).1,id,(hFS.2 x hx g hg).2.2⟩).mono ?_
 rintro e w' ⟨rfl,hb⟩
 refine ⟨v,r,[],S0,[],rfl,⟨rfl,rfl⟩,⟨hb.os,hb.tape,hb.output,hb.size,fun b h1 _=>hb.block b h1,fun b h=>h,fun b h=>.inl h,List.nodup_nil,nofun,nofun⟩,?_⟩;rw [ioV_pv ha];simp only [OdT];exact ⟨[],[],rfl,hr _,rfl⟩
theorem below_same {w w' : World} (h:w' = w):RowKit.Below w.heap.size w w':=h ▸ .refl _ _
end Sx
namespace Sx
open Go
open Go.Shelf Go.RowKit Go.Lib Go.Sort
section
variable {P:Program} {c:Cx P} {nt:Nt} {M:Mi} {st:St} {a:Act} {w:World}
end
end Sx
namespace Sx
open Go
def leR (sto:Nat->Box) (d:D) (us:List Nat) (K:D->List Nat->Prop):Prop :=
 match d with
 | .rsl k sz off ln cp=>match sto k with
   | .blk _ sz' _ kn f=>match Nat.beq sz sz' with
     | true=>Vc (off+ln<=kn/\ln<=cp) (K (.tab sz ln (match off with | 0=>f | o+1=>fun i=>f (o+1+i))) (k :: us))| false=>False
   | _=>False
 | d=>leD sto 4 d us K
theorem leR_ex {sto:Nat->Box} (d:D) (us:List Nat) (K:D->List Nat->Prop) (h:leR sto d us K):∃ d' us',K d' us':=by
 unfold leR at h;split at h
 ·split at h
  ·split at h
   ·exact ⟨_,_,h.2⟩
   ·exact h.elim
  ·exact h.elim
 ·exact leD_ex 4 _ _ _ h
theorem leR_ok {Pc:Program} {c:Cx Pc} {M:Mi} {sto:Nat->Box} (HM:Mem c M sto) (d:D) (v:Value) (us:List Nat) (K:D->List Nat->Prop) (h:Rd M false d v) (hk:leR sto d us K):∃ d' us',K d' us'/\(∀ n ∈ us,n ∈ us')/\LeOK M sto us' fun N=>Rd N true d' v:=by
 unfold leR at hk;split at hk
 ·rename_i k sz off ln cp;simp only [Rd] at h;obtain ⟨_,hkn,b,hρ,rfl⟩:=h;have hb:=HM.box k hkn;split at hk
  ·rename_i e sz' cap kn f hs;rw [hs] at hb;obtain ⟨_,b',cs,h1,h2,h3,h4,h5,h6⟩:=hb;rw [hρ] at h1;cases h1;split at hk
   ·rename_i hsz;have hsz:=nbq hsz;subst hsz;obtain ⟨⟨hle,hcp⟩,hk⟩:=hk;refine ⟨_,_,hk,fun n hn=>List.mem_cons_of_mem _ hn,fun S' e1 e2=>?_⟩;simp only [Rd];refine ⟨_,_,rfl,hcp,fun i hi=>⟨b,off*sz,rfl,e2 k (by simp) b (by rw [hs];simp) (.inl hρ),((cs.toList.drop ((off+i)*sz)).take sz),?_,?_,?_⟩⟩
    ·have h9:(off+i)*sz+sz<=cap*sz:=by rw [<-Nat.succ_mul];exact Nat.mul_le_mul_right _ (by omega)
     have:cs.toList.length=cap*sz:=by rw [<-h3];simp
     simp;omega
    ·intro j hj
     have h9:j<sz:=by simp at hj;omega
     rw [List.getElem?_take,if_pos h9,List.getElem?_drop];unfold cellAt;rw [show (MiS S' M.h).h=M.h from rfl,h2];simp [Nat.add_mul]
    ·have hr:=h6 (off+i) (by omega);have:=RdL.mono (M:=M) (M':=MiS S' M.h) ⟨e1,fun _ _=>rfl,by simp,by simp,by simp,by simp⟩ _ _ hr
     cases off with
     | zero=>simpa using this| succ o=>exact this
   ·exact hk.elim
  ·exact hk.elim
 ·exact leD_ok HM 4 d v us K h hk
theorem CallQ.of_ctR {P:Program} {g:FuncId} {args:List D} {st:St} {K:D->St->Prop}
 (h:lesL (leR st.sto) args [] fun ds ls=>Met P g ds fun r _=>lentOK ls r (st.on fun e_ s_ k_=>adD r s_ k_ fun d s n=>K d ⟨e_,s,n⟩)):CallQ P g args st K:=by
 have hfn:FnOK P g:=by
  obtain ⟨ds,ls,⟨R,hc,_⟩⟩:=lesL_ex leR_ex _ _ _ h;exact hc.fn
 refine ⟨hfn,fun c nt M a w vs R hv=>?_⟩;obtain ⟨ds,ls,⟨Rel,hct,hk⟩,_,hle⟩:=lesL_leT (sto:=st.sto) (fun d v us K=>leR_ok R.mem d v us K) args vs.toList [] _ hv h
 have hsz:M.h.size=w.heap.size:=by rw [R.h]
 have hargs:RdT (MiS (fun b=>M.S b\/∃ n,n ∈ ls/\st.sto n≠.dead/\M.O n b) w.heap) true ds vs.toList:=by
  rw [<-R.h];exact hle _ (fun b hb=>.inl hb) (fun n hn b hd hb=>.inr ⟨n,hn,hd,hb⟩)
 refine (hct.ok w _ vs [] (fun b hb=>?_) (OdT.of_rd _ _ hargs) List.nodup_nil ⟨nofun,R.laid nofun⟩).mono ?_
 ·rcases hb with hb | ⟨n,_,hd,hb⟩
  ·rw [<-hsz];exact R.mem.Slt b hb
  ·rw [<-hsz];exact R.mem.bltO hd hb
 ·rintro e w' ⟨v,r,outs,S1,F',rfl,hR,hB,hod⟩
  rw [ioV_rd _ _ hargs] at hod;simp only [OdT] at hod;obtain ⟨F1,F2,hFF,hod,hod2⟩:=hod
  have houts:outs = []/\F2 = []:=by
   cases outs with
   | nil=>simpa [OdT] using hod2| cons _ _=>simp [OdT] at hod2
  obtain ⟨rfl,rfl⟩:=houts;rw [List.append_nil] at hFF;subst hFF;have hk:=hk r _ hR
  obtain ⟨H1,L1⟩:=R.mem.goOn (fun b=>M.S b\/(S1 b/\w.heap.size<=b)) w'.heap [] (by rw [hsz];exact hB.size) (fun b hb hF=>by rw [R.h];exact hB.old b (by omega) hF) nofun nofun nofun nofun
   (fun b hb=>.inl hb) (fun b hb=>by
     rcases hb with h | ⟨h1,h2⟩
     ·exact .inl h
     ·rcases hB.Snew b h1 with h | h | h
      ·rcases h with h | ⟨n,_,hd,h⟩
       ·exact .inl h
       ·exact absurd (R.mem.bltO hd h) (by omega)
      ·exact .inr (.inl ⟨by omega,h.2⟩)
      ·cases h)
  have hod' : ∀ (hl:ls = []\/noSh r),Od { M with S:=fun b=>M.S b\/(S1 b/\w.heap.size<=b),h:=w'.heap } r v F':=fun hl=>by
   rcases hl with rfl | hl
   ·refine Od.mono (M:=MiS S1 w'.heap) (M':={ M with S:=fun b=>M.S b\/(S1 b/\w.heap.size<=b),h:=w'.heap }) (fun b hb=>?_) (fun _ _=>rfl) r v F' hod (fun _ _=>rfl)
    rcases hB.Snew b hb with h | h | h
    ·rcases h with h | ⟨n,hn,_⟩
     ·exact .inl h
     ·cases hn
    ·exact .inr ⟨hb,h.1⟩
    ·cases h
   ·exact Od.noSh (M:=MiS S1 w'.heap) r v F' hl hod (fun _ _=>rfl)
  have hk' : (ls = []\/noSh r)/\adD r st.sto st.nxt fun d s n=>K d ⟨st.env,s,n⟩:=by
   unfold lentOK at hk;split at hk
   ·exact ⟨.inl rfl,hk⟩
   ·exact ⟨.inr hk.1,hk.2⟩
  obtain ⟨hl,hk⟩:=hk'
  have hge:∀ b ∈ F',w.heap.size<=b:=fun b hb=>by
   rcases hB.Fnew b hb with h | h
   ·cases h
   ·exact h
  have hfree:Free c { M with S:=fun b=>M.S b\/(S1 b/\w.heap.size<=b),h:=w'.heap } st.sto F':=by
   refine ⟨hB.nd,fun b hb hs=>?_,fun b hb n hd he=>absurd (R.mem.bltO hd he) (by have:=hge b hb;omega),fun b hb=>.inl (Nat.le_trans R.mem.size (by have:=hge b hb;omega))⟩
   rcases hs with h | h
   ·exact absurd (R.mem.Slt b h) (by have:=hge b hb;omega)
   ·exact hB.FS b hb h.1
  rw [<-R.nx] at hk;obtain ⟨d',sto',M',hk,A,hr⟩:=adD_ok r v F' { M with S:=fun b=>M.S b\/(S1 b/\w.heap.size<=b),h:=w'.heap } st.sto _ H1 (hod' hl) hfree hk
  have L2:M.Le M' false:=⟨fun b hb=>A.le.S b (L1.S b hb),fun b hb=>(A.le.h b (L1.S b hb)).trans (L1.h b hb),fun _=>Nat.le_trans (L1.nx rfl) (A.le.nx rfl),
   fun _ n hn=>(A.le.ρ rfl n hn).trans (L1.ρ rfl n hn),fun _ n hn=>(A.le.hv rfl n hn).trans (L1.hv rfl n hn),fun _ n hn=>(A.le.X rfl n hn).trans (L1.X rfl n hn)⟩
  exact ⟨d',_,M',v,rfl,fun b hb=>hB.old b hb nofun,hk,R.go L2 A.mem A.h rfl hB.os hB.tape hB.output,hr⟩
theorem CallOK.of_ctR {P:Program} {g:FuncId} {args:List D} {st:St} {K:D->St->Prop}
 (h:lesL (leR st.sto) args [] fun ds ls=>Met P g ds fun r _=>lentOK ls r (st.on fun e_ s_ k_=>adD r s_ k_ fun d s n=>K d ⟨e_,s,n⟩)):CallOK P g args st K:=(CallQ.of_ctR h).call
end Sx
