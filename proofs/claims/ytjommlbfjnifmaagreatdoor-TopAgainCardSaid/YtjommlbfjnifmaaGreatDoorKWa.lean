/- The law lifted to the row. -/
import Derived.Test.YtjommlbfjnifmaaGreatDoorKB9
import Derived.Test.YtjommlbfjnifmaaGreatDoorRows
import Derived.Test.YtjommlbfjnifmaaGreatDoorCards
import Derived.Test.YtjommlbfjnifmaaGreatDoorTie
import Derived.LaidMore
import Derived.Lay
import Derived.SevenTiedAt
import Derived.Stop.Joined
namespace Go.Proofs.YtjommlbfjnifmaaGreatDoor.topAgain
open Go.ChangeShapes Go.WideShapes Go.ChangeAt Go.RowKit
set_option linter.unusedVariables false
theorem own:ownKnob Tryz.prog.godebug=none:=by kernel_rfl
theorem laidOut:laidOutB Tryz.prog=true:=by kernel_rfl
set_option maxRecDepth 100000 in
theorem lifted (os:Os) (started:os.Started) (H:Type) (enc:TypeId × Value→H) :
 ReturnsInHanded {} Tryz.checked os 3 .any (fun w args=>(Rows.topAgainSpec.pre enc Tryz.prog Tryz.f3 Rows.topAgainRow.domain false w args∧laidMetH Tryz.prog Rows.topAgainRow.laid w)∧sizedMet enc Tryz.prog Tryz.f3 (OpenSpec.ofChange Rows.topAgainSpec) false w args) (Rows.topAgainSpec.post enc Tryz.prog Tryz.f3 false true false false):=by
 refine returnsInHanded_of_change_and (C:=Tryz.checked) (X:=fun w _=>laidMetH Tryz.prog Rows.topAgainRow.laid w) (fun _ _ _ hh h=>h.of_heap hh) own started (by kernel_rfl) Tryz.func3
  (ChangeSpec.witness_shaped (enc:=enc) (C:=Tryz.checked) (os:=os) (X:=fun w _=>laidMetH Tryz.prog Rows.topAgainRow.laid w) false (World.laidAll Tryz.prog os Rows.topAgainRow.laid) #[.slice none 0 0] 8 (World.laidAll_os _ _ _)
    (World.shaped_of_ZipB (by kernel_rfl) (by kernel_rfl)) (by kernel_rfl) (by kernel_rfl) (by kernel_rfl)
    (by rw [MakeChecks.laidMetH_plain _ _ _ (by kernel_rfl)];exact laidMet_laidAll _ (by kernel_rfl) (by kernel_rfl))) ?_
 intro W base args ds gs before hval0 hW hcnd hsz hX1 hX2
 have hval:∀ (j:Nat) t v,Tryz.f3.params[j]? = some t→args[j]? = some v→Value.okWide Tryz.prog W .any base t v:=hval0
 have hW':=hW
 obtain ⟨p,q,hA0,hV,rfl,hfz,hnd⟩:=hW
 have hA:DataW.TrodAll enc Tryz.prog W 0 (fun _=>true) true Tryz.f3.params.toList args.toList ds p:=hA0
 rw [Tryz.params3] at hA hval
 rw [Tryz.params3] at hsz
 obtain ⟨v0,vs0,d0,ds0,p0,q0,hargs,rfl,rfl,h0,r0⟩:=trodAll_cons hA
 obtain ⟨rfl,rfl,rfl⟩:=trodAll_nil r0
 obtain rfl:args = #[v0]:=by cases args;simp_all
 obtain ⟨rfl,rfl⟩:=trodVars_none hV
 obtain ⟨a0,len0,cap0,rfl⟩:=okWide_slice Tryz.underlying22 (hval 0 22 v0 rfl rfl)
 have k0:=h0
 have lt0:∀ x ∈ p0,x.block<W.heap.size:=by obtain ⟨m,hm⟩:=k0;exact DataW.trod_lt m _ _ _ hm
 obtain ⟨y0,ok0,rd0⟩:=Sx.Rdr.val1 ((Sx.rdSlice Tryz.underlying22 (by kernel_rfl:Tryz.prog.cellsOf 3=1) (by decide) (by kernel_rfl:Tryz.prog.bytesOf 3=8) (Sx.rdInt Tryz.underlying3))) rfl _ (fun _=>rfl) h0 (Sx.sized_get hsz (i:=0) (t:=22) (d:=d0) rfl rfl)
 clear hA0 hval0
 refine (Sx.Ct.walk (((Kx.again_law y0).mono fun _ _ h=>.inl h.1)) (Sx.rdtC rd0 Sx.rdtN) (Kx.laid_of (by have h:=hX1;rw [MakeChecks.laidMetH_plain _ _ _ (by kernel_rfl)] at h;exact h) (g:=5) (t:=411) (e:=5) (g2:=0) (t2:=393) (e2:=80) (by kernel_rfl) (by kernel_rfl) (by kernel_rfl) (by kernel_rfl) (by kernel_rfl) (by kernel_rfl) (.tail _ (.head _)) (by kernel_rfl) (by kernel_rfl) (by kernel_rfl) (by kernel_rfl) (by kernel_rfl) (by kernel_rfl) (.tail _ (.tail _ (.head _))))).mono fun e W' ⟨he,bel⟩=>?_
 subst he
 exact ⟨_,rfl,_,_,_,[],_,[],hW',trodAll_mk1 (shut_bool Tryz.underlying4 _),(trodAll_cons_mk (Below.trod laidOut (by kernel_rfl) (of_decide_eq_true (by kernel_rfl)) k0 bel lt0) trodAll_mk0),rfl,bel.frame _,fun h=>by cases h⟩
end Go.Proofs.YtjommlbfjnifmaaGreatDoor.topAgain
