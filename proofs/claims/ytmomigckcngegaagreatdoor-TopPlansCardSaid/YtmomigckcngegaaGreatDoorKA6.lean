/-
  The statements on names: twice.
  No condition beyond those written in each theorem.
-/
import Derived.Test.YtmomigckcngegaaGreatDoorKA5
import Derived.Test.YtmomigckcngegaaGreatDoorFD
set_option linter.unusedSimpArgs false
set_option linter.unusedVariables false
set_option maxRecDepth 4000
open Go Sx Go.Proofs
namespace Kx
end Kx
open Go Sx Go.Proofs
namespace Kx
end Kx
open Go Sx Go.Proofs
namespace Kx
end Kx
open Go Sx Go.Proofs
namespace Kx
theorem dr_endP {s o a:Str} {i:Nat} (hi:i≤s.length) (hn:¬(i:Int)<s.length) (h2:o.length≤2*i+1) (h3:foldedC s→DrI (s.take i) o) (ha1:a.length≤1) (ha2:endB a=true):(o ++ a).length≤2*s.length+2∧(foldedC s→(∀ y ∈ o ++ a,isPrn y=true)∧toks ((o ++ a).flatMap plainS)=toks s):=by
 refine ⟨by simp only [List.length_append];omega,fun hf=>?_⟩
 have hp:∀ y ∈ o ++ a,isPrn y=true:=fun y hy=>by
  rcases List.mem_append.1 hy with hy | hy
  ·exact (h3 hf).prn y hy
  ·simp only [endB,Bool.and_eq_true,List.all_eq_true] at ha2
   exact ha2.1 y hy
 have:=((h3 hf).done ha2).2
 rw [(rawL_prn _ hp).2,show i=s.length by omega,List.take_length] at this
 exact ⟨hp,this⟩
theorem dressP_ct (d:Dk) (s:Str) (hs:s.length≤100000):Ct Tryz.prog 115 [d.b,.str s] fun r outs=>∃ x d',(x.length≤2*s.length+2∧(foldedC s→(∀ y ∈ x,isPrn y=true)∧toks (x.flatMap plainS)=toks s))∧r = .str x∧outs = [Dk.b d']:=by
 refine .some2 (De Tryz.func115 [] [] ?_)
 repeat' first|(refine S0 ?_;conv=>whnf)|(refine Met.by (picksP_ct (fun s=>s.length≤1∧endB s=true) _ [[],[],[32],[45]] (by decide +kernel) (by first | omega | decide | (simp;done) | (simp;omega)) (by first | omega | decide | (simp;done) | (simp;omega))) ?_;rintro q outs ⟨o,d,⟨ho1,ho2⟩,rfl,rfl⟩)|(refine CallOK.io1F (g:=114) (Step.out ?_))
 refine CodeOK.loopW hΓ hm [] [] (by kernel_rfl) (α:=Dk × Nat × Str) (fun z=>[(0,.loc 0 0),(1,.str s),(5,.str z.2.2),(6,i64 z.2.1)]) (fun z=>[(0,.var z.1.ls)]) 1 (fun z=>z.2.1≤s.length∧z.2.2.length≤2*z.2.1+1∧(foldedC s→DrI (s.take z.2.1) z.2.2)) (fun z=>s.length - z.2.1) ?_ ?_
 ·refine Again.by (d,0,o) ⟨Nat.zero_le _,by dsimp only;omega,fun _=>DrI.start ho2⟩ ?_
  repeat' first|(refine S0 ?_;conv=>whnf)|(refine Vo ?_)|(refine Vb ?_)|exact T0
 ·intro ⟨d,i,o⟩ ⟨h1,h2,h3⟩
  dsimp only at h1 h2 h3 ⊢
  repeat' first|(refine S0 ?_;conv=>whnf)|(refine Vo ?_)|(refine Vb ?_)|exact T0|(refine W6 ?_)|(refine W8 ?_)|(refine Met.by (picksP_ct (fun s=>s.length≤2∧sepB s=true) _ [[32],[45],[44,32],[46],[32,32],[47]] (by decide +kernel) (by first | omega | decide | (simp;done) | (simp;omega)) (by first | omega | decide | (simp;done) | (simp;omega))) ?_;rintro q outs ⟨a,d,⟨ha1,ha2⟩,rfl,rfl⟩)|(refine Met.by (picksP_ct (fun s=>s.length≤1∧endB s=true) _ [[],[],[32],[46]] (by decide +kernel) (by first | omega | decide | (simp;done) | (simp;omega)) (by first | omega | decide | (simp;done) | (simp;omega))) ?_;rintro q outs ⟨a,d,⟨ha1,ha2⟩,rfl,rfl⟩)|(refine Lf.by [(s.getD (i:Int).toNat 0) - 32] ⟨rfl,one_dn ‹_› ‹_›⟩ ?_)|(refine Lf.by [(s.getD (i:Int).toNat 0)] ⟨rfl,one_by _⟩ ?_)|(refine Vc.om ?_ ?_;focus ((simp only [List.length_append,List.length_cons,List.length_nil];omega);done))|(refine Again.by (d,i+1,o ++ a) (dr_sep (by omega) (by omega) h2 h3 ha1 ha2) ?_)|(refine Br.d (fun h=>?_) fun h=>?_)|(refine Br.bnot ?_)|(refine Bm (fun h=>?_) fun h=>?_)|(refine CallOK.io1 (g:=25) (Step.out ?_))|(refine CallOK.io1F (g:=114) (Step.out ?_))|(refine Met.by (g:=25) (one_ct _ _) ?_;rintro q outs ⟨x,d,hx,rfl,rfl⟩)
  all_goals try (first
   | (refine Again.by (d,i+1,o ++ [(s.getD (i:Int).toNat 0) - 32]) (dr_ch ((s.getD (i:Int).toNat 0) - 32) (by omega) (fun _=>⟨(low_up (s.getD (i:Int).toNat 0) (by omega) (by omega)).1,(low_up (s.getD (i:Int).toNat 0) (by omega) (by omega)).2.1⟩) h2 h3).1 ?_;((try dsimp only);repeat' first | (refine Step.mk ?_;conv=>whnf) | (refine Vc.om ?_ ?_;first | omega | with_reducible rfl | with_reducible exact same_rfl) | with_reducible trivial | with_reducible rfl);done)
   | (refine Again.by (d,i+1,o ++ [(s.getD (i:Int).toNat 0) - 32] ++ [39]) (dr_ch ((s.getD (i:Int).toNat 0) - 32) (by omega) (fun _=>⟨(low_up (s.getD (i:Int).toNat 0) (by omega) (by omega)).1,(low_up (s.getD (i:Int).toNat 0) (by omega) (by omega)).2.1⟩) h2 h3).2 ?_;((try dsimp only);repeat' first | (refine Step.mk ?_;conv=>whnf) | (refine Vc.om ?_ ?_;first | omega | with_reducible rfl | with_reducible exact same_rfl) | with_reducible trivial | with_reducible rfl);done)
   | (refine Again.by (d,i+1,o ++ [(s.getD (i:Int).toNat 0)]) (dr_ch (s.getD (i:Int).toNat 0) (by omega) (plain_an (s.getD (i:Int).toNat 0)) h2 h3).1 ?_;((try dsimp only);repeat' first | (refine Step.mk ?_;conv=>whnf) | (refine Vc.om ?_ ?_;first | omega | with_reducible rfl | with_reducible exact same_rfl) | with_reducible trivial | with_reducible rfl);done)
   | (refine Again.by (d,i+1,o ++ [(s.getD (i:Int).toNat 0)] ++ [39]) (dr_ch (s.getD (i:Int).toNat 0) (by omega) (plain_an (s.getD (i:Int).toNat 0)) h2 h3).2 ?_;((try dsimp only);repeat' first | (refine Step.mk ?_;conv=>whnf) | (refine Vc.om ?_ ?_;first | omega | with_reducible rfl | with_reducible exact same_rfl) | with_reducible trivial | with_reducible rfl);done))
  ·refine Lf2.by (o ++ a) d (dr_endP h1 ‹_› h2 h3 ha1 ha2) ?_
   repeat' first|(refine S0 ?_;conv=>whnf)|exact T0|exact T1|(refine T2 ?_ ?_)
structure Rich (r:Ru) (T:List Str) (w:Str):Prop where
 prn:∀ y ∈ w,isPrn y=true
 kp:keepL r (toks (w.flatMap plainS))=keepL r T
def pickB (u:Str):Bool:=u.all isPrn && (match u.flatMap plainS with
 | []=>true
 | y :: v=>decide (y=32) && (toks v).all fun t=>decide (lettersS t = []))
theorem keep_none {r:Ru}:∀ {l:List Str},(l.all fun t=>decide (lettersS t = []))=true→keepL r l = []
 | [],_=>rfl
 | t :: l,h=>by
   simp only [List.all_cons,Bool.and_eq_true,decide_eq_true_eq] at h
   have e:keepL r (t :: l)=keepL r [t] ++ keepL r l:=keepL_app r [t] l
   rw [e,keepL_one,if_pos h.1,keep_none h.2];rfl
theorem Rich.pick {r:Ru} {T:List Str} {w u:Str} (H:Rich r T w) (h:pickB u=true):Rich r T (w ++ u):=by
 simp only [pickB,Bool.and_eq_true,List.all_eq_true] at h
 refine ⟨fun y hy=>(List.mem_append.1 hy).elim (H.prn y) (h.1 y),?_⟩
 rw [List.flatMap_append]
 have h2:=h.2
 split at h2
 ·rename_i e;rw [e,List.append_nil];exact H.kp
 ·rename_i y v e
  simp only [Bool.and_eq_true,decide_eq_true_eq] at h2
  rw [e,h2.1]
  unfold toks
  rw [toks_sp2,keepL_app]
  have:=H.kp
  unfold toks at this
  rw [this,keep_none h2.2,List.append_nil]
end Kx
