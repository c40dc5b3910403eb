/-
  The value of a component.
  No condition beyond those written in each theorem.
-/
import Derived.Test.YtfinddimpfiohaaGreatDoorKB2
import Derived.Test.YtfinddimpfiohaaGreatDoorFD
import Derived.Deep.RegionHeld2
import Derived.Test.YtfinddimpfiohaaGreatDoorKB1
import Derived.Test.YtfinddimpfiohaaGreatDoorKA9
import Derived.Test.YtfinddimpfiohaaGreatDoorKA8
import Derived.Test.YtfinddimpfiohaaGreatDoorKA7
import Derived.Test.YtfinddimpfiohaaGreatDoorKA1
set_option linter.unusedSimpArgs false
set_option linter.unusedVariables false
set_option maxRecDepth 4000
open Go Sx Go.Proofs
namespace Kx
theorem str_calls {g:Nat} {s:Str} {n:Nat} (h:Ct Tryz.prog g [.str s] fun r outs=>∃ t:Str,t.length<=n/\r = .str t/\outs = []) (W:World) (hl:Laid Tryz.prog W.heap fun _=>False) :
 Calls Tryz.prog g #[.string ⟨s.toArray⟩] W fun e w'=>∃ t:Str,t.length<=n/\e = .returned (.string ⟨t.toArray⟩)/\RowKit.Below W.heap.size W w':=by
 have:=h.ok W (fun _=>False) #[.string ⟨s.toArray⟩] [] (fun _ hb=>hb.elim) (OdT.of_rd _ _ (rdtC (by simp [Rd]) rdtN)) List.nodup_nil ⟨by simp,fun x hx g hg=>⟨(hl x hx g hg).1,by simp,(hl x hx g hg).2.2⟩⟩;refine this.mono ?_
 rintro e w' ⟨v,r,outs,S',F',rfl,⟨t,ht,rfl,rfl⟩,hB,hO⟩
 simp only [OdT] at hO;obtain ⟨F1,F2,_,hv,_⟩:=hO;simp only [Od,Rd] at hv;exact ⟨t,ht,by rw [hv.1],hB.os,hB.tape,hB.output,hB.size,fun k hk=>hB.old k hk (by simp)⟩
theorem id_ct (s:Str):Cr 333 [.str s] (.str s):=by
 refine .det (De Tryz.func333 [] [] ?_)
 repeat' first|refine S0 ?_;conv=>whnf|exact T0|refine T2 ?_ ?_
theorem beg1_ct (s:Str) (hs:s.length<=64):Ct Tryz.prog 335 [.str s] fun r outs=>∃ t:Str,t.length<=64/\r = .str t/\outs = []:=by
 refine .some (De Tryz.func335 [] [] ?_)
 repeat' first|refine S0 ?_;conv=>whnf|(refine Met.by (begin_ct _ _ (by omega) (by omega)) ?_;rintro q outs ⟨t,ht,rfl,rfl⟩)|refine K0 ?_
 refine Lf.by t (by omega) ?_
 repeat' first|refine S0 ?_;conv=>whnf|exact T0|refine T2 ?_ ?_
theorem beg4_ct (s:Str) (hs:s.length<=64):Ct Tryz.prog 337 [.str s] fun r outs=>∃ t:Str,t.length<=64/\r = .str t/\outs = []:=by
 refine .some (De Tryz.func337 [] [] ?_)
 repeat' first|refine S0 ?_;conv=>whnf|(refine Met.by (begin_ct _ _ (by omega) (by omega)) ?_;rintro q outs ⟨t,ht,rfl,rfl⟩)|refine K0 ?_
 refine Lf.by t (by omega) ?_
 repeat' first|refine S0 ?_;conv=>whnf|exact T0|refine T2 ?_ ?_
theorem tm_len (g:Nat) (hg:g=333\/g=334\/g=335\/g=337\/g=338) (s:Str) (hs:s.length<=64):Ct Tryz.prog g [.str s] fun r outs=>∃ t:Str,t.length<=64/\r = .str t/\outs = []:=by
 rcases hg with rfl | rfl | rfl | rfl | rfl
 ·exact (id_ct s).mono fun r outs ⟨h1,h2⟩=>⟨s,hs,h1,h2⟩
 ·refine (pkey_ct s (by omega)).mono fun r outs ⟨h1,h2⟩=>⟨_,?_,h1,h2⟩
  unfold pkey;split
  ·exact zle _
  ·exact Nat.le_trans (sdx_len _) (by omega)
 ·exact beg1_ct s hs
 ·exact beg4_ct s hs
 ·refine (number_ct s (by omega)).mono fun r outs ⟨h1,h2⟩=>⟨_,?_,h1,h2⟩
  unfold numberS;by_cases h0:(numbers (toks s)).length=0
  ·rw [List.length_eq_zero_iff.1 h0];exact zle _
  ·exact Nat.le_trans (ptoks_len (List.mem_filter.1 (getD_in (l:=numbers (toks s)) (by omega))).1) hs
theorem cell_at {W:World} {B j:Nat} {vs:Array Value} {t:TypeId} {v:Value} (h:W.heap[B]? = some (.cells vs t (0,0))) (hv:vs[j]? = some v):W.cell? ⟨B,j,none⟩=some v:=by
 simp [World.cell?,h,hv]
def PS (W:World) (f t:Int) (b o n cap i:Nat) (x:ByteArray) (w' : World):Prop:=w'.cell? ⟨W.heap.size,0,none⟩=some (.int .i64 f)/\w'.cell? ⟨W.heap.size,1,none⟩=some (.int .i64 t)/\w'.cell? ⟨W.heap.size+1,2,none⟩=some (.slice (some ⟨b,o,none⟩) n cap)/\w'.cell? ⟨b,i,none⟩=some (.string x)/\RowKit.Below W.heap.size W w'/\W.heap.size+2<=w'.heap.size/\b<W.heap.size
theorem PS.drew {W:World} {f t:Int} {b o n cap i:Nat} {x:ByteArray} {w' : World} (h:PS W f t b o n cap i x w'):PS W f t b o n cap i x w'.drew :=
 ⟨h.1,h.2.1,h.2.2.1,h.2.2.2.1,⟨h.2.2.2.2.1.os,h.2.2.2.2.1.tape,h.2.2.2.2.1.output,h.2.2.2.2.1.size,h.2.2.2.2.1.block⟩,h.2.2.2.2.2⟩
theorem PS.below {W:World} {f t:Int} {b o n cap i:Nat} {x:ByteArray} {w' w2:World} (h:PS W f t b o n cap i x w') (hB:RowKit.Below w'.heap.size w' w2):PS W f t b o n cap i x w2:=by
 obtain ⟨h1,h2,h3,h4,h5,h6,h7⟩:=h
 have hc:∀ k j,k<w'.heap.size->w2.cell? ⟨k,j,none⟩=w'.cell? ⟨k,j,none⟩:=fun k j hk=>by
  have:=hB.block k hk;simp only [World.cell?];rw [this]
 refine ⟨(hc _ _ (by omega)).trans h1,(hc _ _ (by omega)).trans h2,(hc _ _ (by omega)).trans h3,(hc _ _ (by omega)).trans h4,⟨hB.os.trans h5.os,hB.tape.trans h5.tape,hB.output.trans h5.output,Nat.le_trans h5.size hB.size,fun k hk=>(hB.block k (Nat.lt_of_lt_of_le hk h5.size)).trans (h5.block k hk)⟩,Nat.le_trans h6 hB.size,h7⟩
theorem PS.new (W:World) (f t id ver:Int) (b o n cap i:Nat) (x:ByteArray) (hb:b<W.heap.size) (hc:W.cell? ⟨b,i,none⟩=some (.string x)):PS W f t b o n cap i x ((W.alloc (.cells #[.int .i64 f,.int .i64 t] 94)).alloc (.cells #[.int .i64 id,.int .i64 ver,.slice (some ⟨b,o,none⟩) n cap] 74)):=by
 have h1:((W.heap.push (.cells #[.int .i64 f,.int .i64 t] 94)).push (.cells #[.int .i64 id,.int .i64 ver,.slice (some ⟨b,o,none⟩) n cap] 74))[W.heap.size]? = some (.cells #[.int .i64 f,.int .i64 t] 94):=by
  rw [Array.getElem?_push,if_neg (by simp),Array.getElem?_push,if_pos rfl]
 have h2:((W.heap.push (.cells #[.int .i64 f,.int .i64 t] 94)).push (.cells #[.int .i64 id,.int .i64 ver,.slice (some ⟨b,o,none⟩) n cap] 74))[W.heap.size+1]? = some (.cells #[.int .i64 id,.int .i64 ver,.slice (some ⟨b,o,none⟩) n cap] 74):=by
  rw [Array.getElem?_push,if_pos (by simp)]
 have h3:∀ k,k<W.heap.size->((W.heap.push (.cells #[.int .i64 f,.int .i64 t] 94)).push (.cells #[.int .i64 id,.int .i64 ver,.slice (some ⟨b,o,none⟩) n cap] 74))[k]? = W.heap[k]?:=fun k hk=>by
  rw [Array.getElem?_push,if_neg (by simp;omega),Array.getElem?_push,if_neg (by omega)]
 have hz:W.heap.size+2<=((W.alloc (.cells #[.int .i64 f,.int .i64 t] 94)).alloc (.cells #[.int .i64 id,.int .i64 ver,.slice (some ⟨b,o,none⟩) n cap] 74)).heap.size:=by
  show _<=((W.heap.push _).push _).size
  simp
 refine ⟨?_,?_,?_,?_,⟨rfl,rfl,rfl,by omega,h3⟩,hz,hb⟩
 ·exact cell_at (W:=(W.alloc _).alloc _) h1 rfl
 ·exact cell_at (W:=(W.alloc _).alloc _) h1 rfl
 ·exact cell_at (W:=(W.alloc _).alloc _) h2 rfl
 ·have:((W.alloc (.cells #[.int .i64 f,.int .i64 t] 94)).alloc (.cells #[.int .i64 id,.int .i64 ver,.slice (some ⟨b,o,none⟩) n cap] 74)).heap[b]? = W.heap[b]?:=h3 b hb;simp only [World.cell?] at hc ⊢;rw [this];exact hc
set_option maxHeartbeats 4000000 in
set_option maxRecDepth 1000000 in
theorem part_law_1 (f:Nat) (t id ver:Int) (b o n cap:Nat) (x:ByteArray) (W:World) (hb:b<W.heap.size) (hc:W.cell? ⟨b,o+f,none⟩=some (.string x)) (hf:f<n)
 (c0:∀ w',PS W f t b o n cap (o+f) x w'->Calls Tryz.prog 333 #[.string x] w' fun e w2=>∃ u:Str,u.length<=64/\e = .returned (.string ⟨u.toArray⟩)/\PS W f t b o n cap (o+f) x w2)
 (tl:∀ w',PS W f t b o n cap (o+f) x w'->Calls Tryz.prog 293 #[] w' fun e w2=>∃ m,e = .returned (.map (some m))/\PS W f t b o n cap (o+f) x w2/\(Instr.lookup 351 (.map (some m)) (.int .i64 t) false).run Tryz.prog w2 = .ok (.func (.func 333) #[] #[]) w2/\(Instr.lookup 351 (.map (some m)) (.int .i64 t) false).run Tryz.prog w2.drew = .ok (.func (.func 333) #[] #[]) w2.drew) :
 Calls Tryz.prog 247 #[.agg #[.int .i64 f,.int .i64 t],.agg #[.int .i64 id,.int .i64 ver,.slice (some ⟨b,o,none⟩) n cap]] W fun e w'=>∃ t:Str,t.length<=64/\e = .returned (.string ⟨t.toArray⟩)/\RowKit.Below W.heap.size W w':=by
 have mixed:=hm;have h0:=PS.new W f t id ver b o n cap (o+f) x hb hc
 go_enter Tryz.func247,Tryz.ntmps247
 go_wp2
 ·go_ret
  exact ⟨[],by simp,rfl,h0.2.2.2.2.1⟩
 go_region_held2 (fun w'=>w'.cell? ⟨W.heap.size,0,none⟩=some (.int .i64 f)/\w'.cell? ⟨W.heap.size,1,none⟩=some (.int .i64 t)/\w'.cell? ⟨W.heap.size+1,2,none⟩=some (.slice (some ⟨b,o,none⟩) n cap)/\w'.cell? ⟨b,o+f,none⟩=some (.string x)/\RowKit.Below W.heap.size W w'/\W.heap.size+2<=w'.heap.size/\b<W.heap.size)
  (first | exact h0 | exact h0.drew | exact hS1 | exact hS1.drew | exact hS2 | exact hS2.drew)
  (first
  | (go_at_call 293;refine (tl _ (by first | exact h0 | exact h0.drew | assumption)).mono ?_;rintro e w1 ⟨m,rfl,hS1,l1,l2⟩)
  | (go_at_call 333;refine (c0 _ (by first | exact hS1 | exact hS1.drew | exact hS1.drew.drew | assumption)).mono ?_;rintro e w2 ⟨u,hu,rfl,hS2⟩))
 go_wp2
 go_ret
 exact ⟨u,hu,rfl,hS2.2.2.2.2.1⟩
set_option maxHeartbeats 4000000 in
set_option maxRecDepth 1000000 in
theorem part_law_2 (f:Nat) (t id ver:Int) (b o n cap:Nat) (x:ByteArray) (W:World) (hb:b<W.heap.size) (hc:W.cell? ⟨b,o+f,none⟩=some (.string x)) (hf:f<n)
 (c0:∀ w',PS W f t b o n cap (o+f) x w'->Calls Tryz.prog 334 #[.string x] w' fun e w2=>∃ u:Str,u.length<=64/\e = .returned (.string ⟨u.toArray⟩)/\PS W f t b o n cap (o+f) x w2)
 (tl:∀ w',PS W f t b o n cap (o+f) x w'->Calls Tryz.prog 293 #[] w' fun e w2=>∃ m,e = .returned (.map (some m))/\PS W f t b o n cap (o+f) x w2/\(Instr.lookup 351 (.map (some m)) (.int .i64 t) false).run Tryz.prog w2 = .ok (.func (.func 334) #[] #[]) w2/\(Instr.lookup 351 (.map (some m)) (.int .i64 t) false).run Tryz.prog w2.drew = .ok (.func (.func 334) #[] #[]) w2.drew) :
 Calls Tryz.prog 247 #[.agg #[.int .i64 f,.int .i64 t],.agg #[.int .i64 id,.int .i64 ver,.slice (some ⟨b,o,none⟩) n cap]] W fun e w'=>∃ t:Str,t.length<=64/\e = .returned (.string ⟨t.toArray⟩)/\RowKit.Below W.heap.size W w':=by
 have mixed:=hm;have h0:=PS.new W f t id ver b o n cap (o+f) x hb hc
 go_enter Tryz.func247,Tryz.ntmps247
 go_wp2
 ·go_ret
  exact ⟨[],by simp,rfl,h0.2.2.2.2.1⟩
 go_region_held2 (fun w'=>w'.cell? ⟨W.heap.size,0,none⟩=some (.int .i64 f)/\w'.cell? ⟨W.heap.size,1,none⟩=some (.int .i64 t)/\w'.cell? ⟨W.heap.size+1,2,none⟩=some (.slice (some ⟨b,o,none⟩) n cap)/\w'.cell? ⟨b,o+f,none⟩=some (.string x)/\RowKit.Below W.heap.size W w'/\W.heap.size+2<=w'.heap.size/\b<W.heap.size)
  (first | exact h0 | exact h0.drew | exact hS1 | exact hS1.drew | exact hS2 | exact hS2.drew)
  (first
  | (go_at_call 293;refine (tl _ (by first | exact h0 | exact h0.drew | assumption)).mono ?_;rintro e w1 ⟨m,rfl,hS1,l1,l2⟩)
  | (go_at_call 334;refine (c0 _ (by first | exact hS1 | exact hS1.drew | exact hS1.drew.drew | assumption)).mono ?_;rintro e w2 ⟨u,hu,rfl,hS2⟩))
 go_wp2
 go_ret
 exact ⟨u,hu,rfl,hS2.2.2.2.2.1⟩
set_option maxHeartbeats 4000000 in
set_option maxRecDepth 1000000 in
theorem part_law_3 (f:Nat) (t id ver:Int) (b o n cap:Nat) (x:ByteArray) (W:World) (hb:b<W.heap.size) (hc:W.cell? ⟨b,o+f,none⟩=some (.string x)) (hf:f<n)
 (c0:∀ w',PS W f t b o n cap (o+f) x w'->Calls Tryz.prog 335 #[.string x] w' fun e w2=>∃ u:Str,u.length<=64/\e = .returned (.string ⟨u.toArray⟩)/\PS W f t b o n cap (o+f) x w2)
 (tl:∀ w',PS W f t b o n cap (o+f) x w'->Calls Tryz.prog 293 #[] w' fun e w2=>∃ m,e = .returned (.map (some m))/\PS W f t b o n cap (o+f) x w2/\(Instr.lookup 351 (.map (some m)) (.int .i64 t) false).run Tryz.prog w2 = .ok (.func (.func 335) #[] #[]) w2/\(Instr.lookup 351 (.map (some m)) (.int .i64 t) false).run Tryz.prog w2.drew = .ok (.func (.func 335) #[] #[]) w2.drew) :
 Calls Tryz.prog 247 #[.agg #[.int .i64 f,.int .i64 t],.agg #[.int .i64 id,.int .i64 ver,.slice (some ⟨b,o,none⟩) n cap]] W fun e w'=>∃ t:Str,t.length<=64/\e = .returned (.string ⟨t.toArray⟩)/\RowKit.Below W.heap.size W w':=by
 have mixed:=hm;have h0:=PS.new W f t id ver b o n cap (o+f) x hb hc
 go_enter Tryz.func247,Tryz.ntmps247
 go_wp2
 ·go_ret
  exact ⟨[],by simp,rfl,h0.2.2.2.2.1⟩
 go_region_held2 (fun w'=>w'.cell? ⟨W.heap.size,0,none⟩=some (.int .i64 f)/\w'.cell? ⟨W.heap.size,1,none⟩=some (.int .i64 t)/\w'.cell? ⟨W.heap.size+1,2,none⟩=some (.slice (some ⟨b,o,none⟩) n cap)/\w'.cell? ⟨b,o+f,none⟩=some (.string x)/\RowKit.Below W.heap.size W w'/\W.heap.size+2<=w'.heap.size/\b<W.heap.size)
  (first | exact h0 | exact h0.drew | exact hS1 | exact hS1.drew | exact hS2 | exact hS2.drew)
  (first
  | (go_at_call 293;refine (tl _ (by first | exact h0 | exact h0.drew | assumption)).mono ?_;rintro e w1 ⟨m,rfl,hS1,l1,l2⟩)
  | (go_at_call 335;refine (c0 _ (by first | exact hS1 | exact hS1.drew | exact hS1.drew.drew | assumption)).mono ?_;rintro e w2 ⟨u,hu,rfl,hS2⟩))
 go_wp2
 go_ret
 exact ⟨u,hu,rfl,hS2.2.2.2.2.1⟩
set_option maxHeartbeats 4000000 in
set_option maxRecDepth 1000000 in
theorem part_law_4 (f:Nat) (t id ver:Int) (b o n cap:Nat) (x:ByteArray) (W:World) (hb:b<W.heap.size) (hc:W.cell? ⟨b,o+f,none⟩=some (.string x)) (hf:f<n)
 (c0:∀ w',PS W f t b o n cap (o+f) x w'->Calls Tryz.prog 337 #[.string x] w' fun e w2=>∃ u:Str,u.length<=64/\e = .returned (.string ⟨u.toArray⟩)/\PS W f t b o n cap (o+f) x w2)
 (tl:∀ w',PS W f t b o n cap (o+f) x w'->Calls Tryz.prog 293 #[] w' fun e w2=>∃ m,e = .returned (.map (some m))/\PS W f t b o n cap (o+f) x w2/\(Instr.lookup 351 (.map (some m)) (.int .i64 t) false).run Tryz.prog w2 = .ok (.func (.func 337) #[] #[]) w2/\(Instr.lookup 351 (.map (some m)) (.int .i64 t) false).run Tryz.prog w2.drew = .ok (.func (.func 337) #[] #[]) w2.drew) :
 Calls Tryz.prog 247 #[.agg #[.int .i64 f,.int .i64 t],.agg #[.int .i64 id,.int .i64 ver,.slice (some ⟨b,o,none⟩) n cap]] W fun e w'=>∃ t:Str,t.length<=64/\e = .returned (.string ⟨t.toArray⟩)/\RowKit.Below W.heap.size W w':=by
 have mixed:=hm;have h0:=PS.new W f t id ver b o n cap (o+f) x hb hc
 go_enter Tryz.func247,Tryz.ntmps247
 go_wp2
 ·go_ret
  exact ⟨[],by simp,rfl,h0.2.2.2.2.1⟩
 go_region_held2 (fun w'=>w'.cell? ⟨W.heap.size,0,none⟩=some (.int .i64 f)/\w'.cell? ⟨W.heap.size,1,none⟩=some (.int .i64 t)/\w'.cell? ⟨W.heap.size+1,2,none⟩=some (.slice (some ⟨b,o,none⟩) n cap)/\w'.cell? ⟨b,o+f,none⟩=some (.string x)/\RowKit.Below W.heap.size W w'/\W.heap.size+2<=w'.heap.size/\b<W.heap.size)
  (first | exact h0 | exact h0.drew | exact hS1 | exact hS1.drew | exact hS2 | exact hS2.drew)
  (first
  | (go_at_call 293;refine (tl _ (by first | exact h0 | exact h0.drew | assumption)).mono ?_;rintro e w1 ⟨m,rfl,hS1,l1,l2⟩)
  | (go_at_call 337;refine (c0 _ (by first | exact hS1 | exact hS1.drew | exact hS1.drew.drew | assumption)).mono ?_;rintro e w2 ⟨u,hu,rfl,hS2⟩))
 go_wp2
 go_ret
 exact ⟨u,hu,rfl,hS2.2.2.2.2.1⟩
set_option maxHeartbeats 4000000 in
set_option maxRecDepth 1000000 in
theorem part_law_5 (f:Nat) (t id ver:Int) (b o n cap:Nat) (x:ByteArray) (W:World) (hb:b<W.heap.size) (hc:W.cell? ⟨b,o+f,none⟩=some (.string x)) (hf:f<n)
 (c0:∀ w',PS W f t b o n cap (o+f) x w'->Calls Tryz.prog 338 #[.string x] w' fun e w2=>∃ u:Str,u.length<=64/\e = .returned (.string ⟨u.toArray⟩)/\PS W f t b o n cap (o+f) x w2)
 (tl:∀ w',PS W f t b o n cap (o+f) x w'->Calls Tryz.prog 293 #[] w' fun e w2=>∃ m,e = .returned (.map (some m))/\PS W f t b o n cap (o+f) x w2/\(Instr.lookup 351 (.map (some m)) (.int .i64 t) false).run Tryz.prog w2 = .ok (.func (.func 338) #[] #[]) w2/\(Instr.lookup 351 (.map (some m)) (.int .i64 t) false).run Tryz.prog w2.drew = .ok (.func (.func 338) #[] #[]) w2.drew) :
 Calls Tryz.prog 247 #[.agg #[.int .i64 f,.int .i64 t],.agg #[.int .i64 id,.int .i64 ver,.slice (some ⟨b,o,none⟩) n cap]] W fun e w'=>∃ t:Str,t.length<=64/\e = .returned (.string ⟨t.toArray⟩)/\RowKit.Below W.heap.size W w':=by
 have mixed:=hm;have h0:=PS.new W f t id ver b o n cap (o+f) x hb hc
 go_enter Tryz.func247,Tryz.ntmps247
 go_wp2
 ·go_ret
  exact ⟨[],by simp,rfl,h0.2.2.2.2.1⟩
 go_region_held2 (fun w'=>w'.cell? ⟨W.heap.size,0,none⟩=some (.int .i64 f)/\w'.cell? ⟨W.heap.size,1,none⟩=some (.int .i64 t)/\w'.cell? ⟨W.heap.size+1,2,none⟩=some (.slice (some ⟨b,o,none⟩) n cap)/\w'.cell? ⟨b,o+f,none⟩=some (.string x)/\RowKit.Below W.heap.size W w'/\W.heap.size+2<=w'.heap.size/\b<W.heap.size)
  (first | exact h0 | exact h0.drew | exact hS1 | exact hS1.drew | exact hS2 | exact hS2.drew)
  (first
  | (go_at_call 293;refine (tl _ (by first | exact h0 | exact h0.drew | assumption)).mono ?_;rintro e w1 ⟨m,rfl,hS1,l1,l2⟩)
  | (go_at_call 338;refine (c0 _ (by first | exact hS1 | exact hS1.drew | exact hS1.drew.drew | assumption)).mono ?_;rintro e w2 ⟨u,hu,rfl,hS2⟩))
 go_wp2
 go_ret
 exact ⟨u,hu,rfl,hS2.2.2.2.2.1⟩
theorem laid_below {W w' : World} (hl:Laid Tryz.prog W.heap fun _=>False) (h:RowKit.Below W.heap.size W w'):Laid Tryz.prog w'.heap fun _=>False:=fun x hx g hg=>by
 obtain ⟨h1,h2,h3⟩:=hl x hx g hg;refine ⟨Nat.lt_of_lt_of_le h1 h.size,h2,?_⟩;rw [h.block g h1];exact h3
theorem tm_law (W:World) (f t:Int) (b o n cap i g k:Nat) (x:ByteArray) (hg:Instr.findNow (.int .i64) (.int .i64 t) tE5.toList 0=some (some (k,.func (.func g) #[] #[]))) (w' : World) (h:PS W f t b o n cap i x w') :
 Calls Tryz.prog 293 #[] w' fun e w2=>∃ m,e = .returned (.map (some m))/\PS W f t b o n cap i x w2/\(Instr.lookup 351 (.map (some m)) (.int .i64 t) false).run Tryz.prog w2 = .ok (.func (.func g) #[] #[]) w2/\(Instr.lookup 351 (.map (some m)) (.int .i64 t) false).run Tryz.prog w2.drew = .ok (.func (.func g) #[] #[]) w2.drew:=by
 refine (transforms_law w').mono ?_
 rintro e w2 ⟨rfl,rfl⟩
 refine ⟨_,rfl,h.below ⟨rfl,rfl,rfl,?_,fun k hk=>?_⟩,tm_get _ _ _ _ _ _ _ (alloc_at _ _) hg,tm_get _ _ _ _ _ _ _ (alloc_at _ _) hg⟩
 ·show _<=(w'.heap.push _).size
  simp
 ·show (w'.heap.push _)[k]? = _
  rw [Array.getElem?_push,if_neg (by omega)]
theorem part_all (f:Nat) (t id ver:Int) (b o n cap:Nat) (s:Str) (hs:s.length<=64) (W:World) (hl:Laid Tryz.prog W.heap fun _=>False) (hb:b<W.heap.size) (hc:W.cell? ⟨b,o+f,none⟩=some (.string ⟨s.toArray⟩)) (hf:f<n) (ht:1<=t/\t<=5) :
 Calls Tryz.prog 247 #[.agg #[.int .i64 f,.int .i64 t],.agg #[.int .i64 id,.int .i64 ver,.slice (some ⟨b,o,none⟩) n cap]] W fun e w'=>∃ t:Str,t.length<=64/\e = .returned (.string ⟨t.toArray⟩)/\RowKit.Below W.heap.size W w':=by
 have c0:∀ g,(g=333\/g=334\/g=335\/g=337\/g=338)->∀ w',PS W f t b o n cap (o+f) ⟨s.toArray⟩ w'->Calls Tryz.prog g #[.string ⟨s.toArray⟩] w' fun e w2=>∃ u:Str,u.length<=64/\e = .returned (.string ⟨u.toArray⟩)/\PS W f t b o n cap (o+f) ⟨s.toArray⟩ w2:=fun g hg w' h=>by
  refine (str_calls (tm_len g hg s hs) w' (laid_below hl h.2.2.2.2.1)).mono ?_
  rintro e w2 ⟨u,hu,rfl,hB⟩
  exact ⟨u,hu,rfl,h.below hB⟩
 rcases (show t=1\/t=2\/t=3\/t=4\/t=5 by omega) with rfl | rfl | rfl | rfl | rfl
 ·exact part_law_1 f 1 id ver b o n cap _ W hb hc hf (c0 _ (by simp)) (tm_law W f 1 b o n cap _ _ 0 _ rfl)
 ·exact part_law_2 f 2 id ver b o n cap _ W hb hc hf (c0 _ (by simp)) (tm_law W f 2 b o n cap _ _ 1 _ rfl)
 ·exact part_law_3 f 3 id ver b o n cap _ W hb hc hf (c0 _ (by simp)) (tm_law W f 3 b o n cap _ _ 2 _ rfl)
 ·exact part_law_4 f 4 id ver b o n cap _ W hb hc hf (c0 _ (by simp)) (tm_law W f 4 b o n cap _ _ 3 _ rfl)
 ·exact part_law_5 f 5 id ver b o n cap _ W hb hc hf (c0 _ (by simp)) (tm_law W f 5 b o n cap _ _ 4 _ rfl)
theorem strs_slice {M:Mi} {im:Bool} {l:List Str} {v:Value} (h:Rd M im (strs l) v) (hS:∀ b,M.S b->b<M.h.size):∃ a cap,v = .slice a l.length cap/\∀ j,j<l.length->∃ b o,a=some ⟨b,o,none⟩/\b<M.h.size/\cellAt M.h b (o+j)=some (.string ⟨(l.getD j []).toArray⟩):=by
 simp only [strs,Rd] at h;obtain ⟨a,cap,rfl,hn,hel⟩:=h;refine ⟨a,cap,rfl,fun j hj=>?_⟩;obtain ⟨b,o,ha,hb,vs,hl,hc,hr⟩:=hel j hj;refine ⟨b,o,ha,hS b hb,?_⟩
 match vs,hl,hr with
 | [x],_,hr =>
   simp only [RdL,Rd] at hr;have:=hc 0 (by simp);rw [Nat.add_zero,Nat.mul_one] at this;rw [this,hr.2.1];rfl
theorem odl_cons {M:Mi} {d:D} {l:List D} {vs:List Value} {F:List Nat} (h:OdL M (d :: l) vs F):∃ v vs' F1 F2,vs=v :: vs'/\F=F1 ++ F2/\Od M d v F1/\OdL M l vs' F2:=by
 match vs,h with
 | v :: vs',h =>
   simp only [OdL] at h;obtain ⟨_,F1,F2,h1,h2,h3⟩:=h;exact ⟨v,vs',F1,F2,rfl,h1,h2,h3⟩
 | [],h=>simp [OdL] at h
theorem odl_nil {M:Mi} {vs:List Value} {F:List Nat} (h:OdL M [] vs F):vs = []/\F = []:=by
 match vs,h with
 | [],h=>simpa [OdL] using h| _ :: _,h=>simp [OdL] at h
theorem cp_val {M:Mi} {a b:Int} {v:Value} {F:List Nat} (h:Od M (.agg [i64 a,i64 b]) v F):v = .agg #[.int .i64 a,.int .i64 b]/\F = []:=by
 simp only [Od] at h;obtain ⟨⟨cs⟩,rfl,h⟩:=h;obtain ⟨v1,l1,F1,F2,e1,rfl,o1,h⟩:=odl_cons h;obtain ⟨v2,l2,F3,F4,e2,rfl,o2,h⟩:=odl_cons h;obtain ⟨e3,rfl⟩:=odl_nil h;simp only [i64,Od,Rd] at o1 o2;obtain ⟨rfl,rfl⟩:=o1;obtain ⟨rfl,rfl⟩:=o2;subst e3 e2;simp only at e1;subst e1;exact ⟨rfl,rfl⟩
theorem rc_val {M:Mi} {r:Rc} {v:Value} {F:List Nat} (h:Od M r.d v F):∃ x,v = .agg #[.int .i64 r.id,.int .i64 r.ver,x]/\Rd M true (strs r.v) x/\F = []:=by
 simp only [Rc.d,Rc.l,Od] at h;obtain ⟨⟨cs⟩,rfl,h⟩:=h;obtain ⟨v1,l1,F1,F2,e1,rfl,o1,h⟩:=odl_cons h;obtain ⟨v2,l2,F3,F4,e2,rfl,o2,h⟩:=odl_cons h;obtain ⟨v3,l3,F5,F6,e4,rfl,o3,h⟩:=odl_cons h;obtain ⟨e3,rfl⟩:=odl_nil h;simp only [i64,Od,Rd] at o1 o2;simp only [strs,Od] at o3;obtain ⟨rfl,rfl⟩:=o1;obtain ⟨rfl,rfl⟩:=o2;obtain ⟨o3,rfl⟩:=o3;subst e3 e4 e2;simp only at e1;subst e1;exact ⟨v3,rfl,o3,rfl⟩
theorem bpart_ct (c:Cp) (r:Rc) (h0:0<=c.1) (h1:c.1<r.v.length) (ht:1<=c.2/\c.2<=5) (hv:∀ i,i<r.v.length->(r.v.getD i []).length<=64):Ct Tryz.prog 247 [.agg (cpF c),r.d] fun r outs=>∃ t:Str,t.length<=64/\r = .str t/\outs = []:=by
 obtain ⟨c1,c2⟩:=c;dsimp only at h0 h1 ht;obtain ⟨f,rfl⟩:=Int.eq_ofNat_of_zero_le h0;refine ⟨⟨Tryz.f247,Tryz.func247,by decide,by decide⟩,fun w S0 vs F hS0 hod hnd hFS=>?_⟩
 obtain ⟨x,y,rfl⟩:∃ x y,vs = #[x,y]:=by
  match vs,hod with
  | ⟨[x,y]⟩,_=>exact ⟨x,y,rfl⟩| ⟨[]⟩,h=>simp [OdT] at h| ⟨[_]⟩,h=>simp [OdT] at h| ⟨_ :: _ :: _ :: _⟩,h=>simp [OdT] at h
 simp only [OdT] at hod;obtain ⟨F1,F2,rfl,o1,F3,F4,rfl,o2,rfl⟩:=hod;obtain ⟨rfl,rfl⟩:=cp_val o1;obtain ⟨z,rfl,o3,rfl⟩:=rc_val o2;have hSl:∀ b,(MiS S0 w.heap).S b->b<(MiS S0 w.heap).h.size:=hS0;obtain ⟨a,cap,rfl,hel⟩:=strs_slice o3 hSl;obtain ⟨b,o,rfl,hb,hc⟩:=hel f (by omega);refine (part_all f c2 r.id r.ver b o r.v.length cap (r.v.getD f []) (hv f (by omega)) w (fun x hx g hg=>⟨(hFS.2 x hx g hg).1,by simp,(hFS.2 x hx g hg).2.2⟩) hb hc (by omega) ht).mono ?_
 rintro e w' ⟨t,ht,rfl,hB⟩
 exact ⟨_,_,[],S0,[],rfl,⟨t,ht,rfl,rfl⟩,⟨hB.os,hB.tape,hB.output,hB.size,fun b hb' _=>hB.block b hb',fun _ h=>h,fun _ h=>.inl h,List.nodup_nil,nofun,nofun⟩,by
  simp only [OdT,ioV,i64,cpF,Rc.d,Rc.l];refine ⟨[],[],rfl,?_,?_⟩
  ·simp [Od,Rd]
  ·rfl⟩
end Kx
open Go Sx Go.Proofs
namespace Kx
theorem fit_in {t k:Int} (h:fitB t k=true):1<=t/\t<=5:=by
 simp only [fitB,Bool.or_eq_true,bat,decide_eq_true_eq] at h;omega
theorem cpart_ct {s:Sc} {k:List Cp} (hk:KyOk s k) {r:Rc} (hr:r.ok s) (j:Nat) (hj:j<k.length):Ct Tryz.prog 247 [.agg (cpF (k.getD (j:Int).toNat (0,0))),r.d] fun r outs=>∃ t:Str,t.length<=64/\r = .str t/\outs = []:=by
 have hc:=hk.o.c j hj;rw [tnc]
 exact bpart_ct _ r hc.b0 (by rw [hr.n];exact hc.b1) (fit_in hc.ft) fun i hi=>(hr.v i (by rw [<-hr.n];exact hi)).le
theorem bhash_ct (q:Int × Int) (s:Sc) (k:List Cp) (hk:KyOk s k) (i:Nat) (hi:i<10) (r:Rc) (hr:r.ok s):Ct Tryz.prog 182 [.agg [u64 q.1,u64 q.2],.agg [cps k],i64 i,r.d] fun o outs=>∃ (h:Int) (ok:Bool),((0<=h/\h<=18446744073709551615)/\(ok=false->h=0))/\o = .tup [u64 h,.bool ok]/\outs = []:=by
 have hn:=hk.o.n;have hp:=hk.p;refine .some2 (De Tryz.func182 ord182 [] ?_)
 repeat' first|refine S0 ?_;conv=>whnf
 refine Lw ord182 [] (α:=List Str) (fun z=>[(2,i64 i),(4,.loc 0 0),(5,.loc 1 0),(7,.loc 2 0),(8,u64 0),(9,.lit false),(10,.own 3),(14,cps k),(15,i64 k.length),(16,i64 z.length)]) (fun z=>[(0,.var [u64 q.1,u64 q.2]),(1,.var [cps k]),(2,.var r.l),(3,.arr 9 1 z.length fun j=>[.str (z.getD j [])])]) 4 (fun z=>z.length<=k.length/\(∀ t ∈ z,t.length<=64)) (fun z=>k.length - z.length) ?_ ?_
 ·refine Again.by [] ⟨zle _,nofun⟩ ?_
  repeat' first|refine S0 ?_;conv=>whnf|refine Vo ?_|exact T0|refine Vm ?_ ?_
 ·intro z ⟨hz,hl⟩;dsimp only at hz hl ⊢
  repeat' first|refine S0 ?_;conv=>whnf|refine Vo ?_|refine Vb ?_|exact noSh_bool _|exact noSh_int _ _|refine W6 ?_|(refine Met.by (cpart_ct hk hr z.length (by omega)) ?_;rintro q outs ⟨t,ht,rfl,rfl⟩)|(refine Met.by (itoa_ct i (by omega)) ?_;rintro q outs ⟨rfl,rfl⟩)|(refine M0 (derive_ct q _ (by simp;have:=itS_len i (by omega);omega)) ?_)|(refine M0 (parts_ct (keyD q _) z (by omega) (fun t h=>by have:=hl t h;omega)) ?_)|(refine Br.d (fun h=>?_) fun h=>?_)|(refine Bm (fun h=>?_) fun h=>?_)|refine K0 ?_|refine K1 ?_|(refine M0 (g:=147) (contains_ct _ _ (by first | omega | decide | (simp;done) | (simp;omega))) ?_)|refine Vm ?_ ?_
  ·refine Again.by (z ++ [t]) ⟨⟨by simp;omega,fun u hu=>?_⟩,by simp;omega⟩ ?_
   ·rcases List.mem_append.1 hu with h | h
    ·exact hl u h
    ·rw [List.mem_singleton.1 h];exact ht
   repeat' first|refine S0 ?_;conv=>whnf|refine Vo ?_|exact T0|(exact str_app _ _ rfl)|(simp;done)|refine Vm ?_ ?_
  ·refine Lf2.by 0 false ⟨⟨Int.le_refl _,by omega⟩,fun _=>rfl⟩ ?_
   repeat' first|refine S0 ?_;conv=>whnf|exact T0|refine T2 ?_ ?_
  ·show 5+(itS i).length<=9223372036854775807
   have:=itS_len i (by omega);omega
  ·refine Lf2.by (sip (keyD q ([98,108,111,99,107] ++ itS i)) (partsB z)) true ⟨sip_in _ _,nofun⟩ ?_
   repeat' first|refine S0 ?_;conv=>whnf|exact T0|refine T2 ?_ ?_
end Kx
open Go Sx Go.Proofs
namespace Kx
theorem mem_getD {α:Type} {l:List α} {z:α} {i:Nat} (h:i<l.length):l.getD i z ∈ l:=getD_in h
theorem bfits_ct (t k:Int):Cr 339 [i64 t,i64 k] (.bool (fitB t k)):=by
 refine .det (De Tryz.func339 [] [] ?_)
 repeat' first|refine S0 ?_;conv=>whnf|exact T0|refine B1 ?_|(refine Br.d (fun h=>?_) fun h=>?_)|refine T2 ?_ ?_
 all_goals first
  | trivial
  | exact hb h
  | with_reducible rfl
  | with_reducible exact same_rfl
  | omega
  | ((simp [fitB, *];done))
  | ((simp_all [fitB];done))
  | ((simp only [fitB];simp;omega))
theorem kright_ct (s:Sc) (c:Cp) (hc:CpOk s c):Cr 294 [s.d,.agg (cpF c)] (.bool true):=by
 have h0:=hc.b0;have h1:=hc.b1;have hf:=hc.ft;refine .det (De Tryz.func294 ord294 [] ?_)
 repeat' first|refine S0 ?_;conv=>whnf|refine Vo ?_|exact T0|refine B1 ?_|refine T2 ?_ ?_|refine K1 ?_|(refine M0 (g:=339) (bfits_ct _ _) ?_)
 all_goals exact hf
theorem border_ct (a b:Cp):Cr 295 [.agg (cpF a),.agg (cpF b)] (i64 (orI (cmpI a.1 b.1) (cmpI a.2 b.2))):=by
 refine .det (De Tryz.func295 ord295 [] ?_)
 repeat' first|refine S0 ?_;conv=>whnf|exact T0|exact noSh_int _ _|(refine M0 (or_ct _ _) ?_)|refine T2 ?_ ?_|refine K1 ?_|(refine M0 (g:=167) (compare_i _ _) ?_)|refine Vm ?_ ?_
theorem ord_lt {a b:Cp} (h:a.1<b.1):orI (cmpI a.1 b.1) (cmpI a.2 b.2) = -1:=by
 have:cmpI a.1 b.1 = -1:=if_pos h;rw [orI,this];rfl
theorem bkey_ct (s:Sc) (k:List Cp) (hk:KyOk s k):Cr 248 [s.d,.agg [cps k]] (i64 0):=by
 have hn:=hk.o.n;have hp:=hk.p;refine .det (De Tryz.func248 ord248 [] ?_)
 repeat' first|refine S0 ?_;conv=>whnf|refine B0 ?_|refine Br.swap ?_
 all_goals try omega
 refine Lw ord248 [] (α:=Nat) (fun i=>[(2,.loc 0 0),(3,.loc 1 0),(4,i64 0),(18,cps k),(19,i64 k.length),(20,i64 i)]) (fun i=>[(0,.var s.l),(1,.var [cps k])]) 2 (fun i=>i<=k.length) (fun i=>k.length - i) ?_ ?_
 ·refine Again.by 0 (zle _) ?_
  repeat' first|refine S0 ?_;conv=>whnf|refine Vo ?_|exact T0
 ·intro i hi;dsimp only at hi ⊢
  have hc:i<k.length->CpOk s (k.getD (i:Int).toNat (0,0)):=fun h=>by rw [tnc];exact hk.o.c i h
  have ho:0<(i:Int)->i<k.length->Cr 295 [.agg (cpF (k.getD ((i:Int) - 1).toNat (0,0))),.agg (cpF (k.getD (i:Int).toNat (0,0)))] (i64 (-1)):=fun h1 h2=>by
   have e:=ord_lt (a:=k.getD ((i:Int) - 1).toNat (0,0)) (b:=k.getD (i:Int).toNat (0,0)) (by
    rw [tnc,show ((i:Int) - 1).toNat=i - 1 by omega];have:=hk.o.asc (i - 1) (by omega)
    rwa [show i - 1+1=i by omega] at this)
   have:=border_ct (k.getD ((i:Int) - 1).toNat (0,0)) (k.getD (i:Int).toNat (0,0))
   rwa [e] at this
  repeat' first|refine S0 ?_;conv=>whnf|refine Vo ?_|exact T0|refine W6 ?_|with_reducible refine Br.tt ?_|refine B0 ?_|(refine M0 (kright_ct s _ (hc (by omega))) ?_)|(refine M0 (ho (by assumption) (by omega)) ?_)|(refine Br.d (fun h=>?_) fun h=>?_)|refine Br.swap ?_|refine Br.bnot ?_|refine T2 ?_ ?_|refine K1 ?_
  all_goals
   refine Again.by (i+1) ⟨by omega,by omega⟩ ?_
  ·repeat' first|refine S0 ?_;conv=>whnf|refine Vo ?_|exact T0
  ·repeat' first|refine S0 ?_;conv=>whnf|refine Vo ?_|exact T0
theorem bcheckK_ct (s:Sc) (hs:s.ok) (K:List (List Cp)) (hK:K.length<=8) (hk:∀ k ∈ K,KyOk s k):Cr 184 [s.d,kys K] (i64 0):=by
 refine .det (De Tryz.func184 [] [] ?_)
 repeat' first|refine S0 ?_;conv=>whnf|refine B1 ?_|refine B0 ?_|refine Br.bnot ?_|refine K0 ?_|(refine M0 (g:=21) (scheck_ct _ (by assumption)) ?_)
 all_goals try omega
 refine Lw [] [] (α:=Nat) (fun i=>[(2,.loc 0 0),(4,i64 0),(17,kys K),(18,i64 K.length),(19,i64 i)]) (fun i=>[(0,.var s.l)]) 1 (fun i=>i<=K.length) (fun i=>K.length - i) ?_ ?_
 ·refine Again.by 0 (zle _) ?_
  repeat' first|refine S0 ?_;conv=>whnf|refine Vo ?_|exact T0
 ·intro i hi;dsimp only at hi ⊢
  have hc:i<K.length->KyOk s (K.getD (i:Int).toNat []):=fun h=>by rw [tnc];exact hk _ (mem_getD h)
  repeat' first|refine S0 ?_;conv=>whnf|refine Vo ?_|exact T0|refine W6 ?_|refine B1 ?_|(refine M0 (bkey_ct s _ (hc (by omega))) ?_)|(refine Br.d (fun h=>?_) fun h=>?_)|refine Br.bnot ?_|refine T2 ?_ ?_|refine K0 ?_
  refine Again.by (i+1) ⟨by omega,by omega⟩ ?_
  repeat' first|refine S0 ?_;conv=>whnf|refine Vo ?_|exact T0
end Kx
open Go Sx Go.Proofs
namespace Kx
def AllU (w:List Int):Prop:=∀ x ∈ w,U64 x
theorem setBit_u (w:List Int) (i:Int) (h:AllU w):AllU (setBit w i):=fun x hx=>by
 rcases List.mem_or_eq_of_mem_set hx with hx | rfl
 ·exact h x hx
 ·exact bit_in _ _ _
theorem setBits_u:∀ (l w:List Int),AllU w->AllU (l.foldl setBit w)
 | [],_,h=>h| i :: l,w,h=>setBits_u l _ (setBit_u w i h)
theorem encs_u (p:Pm) (k:Int × Int):∀ (gs:List Str) (w:List Int),AllU w->AllU (gs.foldl (encG p k) w)
 | [],_,h=>h| g :: gs,w,h=>encs_u p k gs _ (setBits_u _ _ h)
theorem fld_ok (s:Sc) (p:Pm) (hp:p.ok) (k:Int × Int) (r:Rc) (i:Nat):MOk (fldW s p k r i):=by
 unfold fldW;split
 ·exact .inl rfl
 ·refine .inr ⟨hp.L,encW_len _ _ _,fun i hi=>?_⟩
  refine encs_u p _ _ _ (fun x hx=>?_) _ (by
   dsimp only at hi ⊢;rw [gDe,List.getElem?_eq_getElem hi]
   exact List.getElem_mem hi)
  rw [(List.mem_replicate.1 hx).2];exact ⟨Int.le_refl _,by decide⟩
def s0:Sc:=⟨[([103,105,118,101,110],1),([98,105,114,116,104],2)],⟨[[100,114]],[],[]⟩⟩
def P0:List Pm:=[⟨64,2,-1⟩,⟨128,3,0⟩]
def raw1:List Str:=[[68,114,46,32,65,110,110],[50,48,48,48,45,48,50,45,48,51]]
def raw2:List Str:=[[65,78,78],[48,51,46,48,50,46,50,48,48,48]]
def v0:List Str:=[[97,110,110],[50,48,48,48,48,50,48,51]]
theorem mk1:mkL s0 raw1 2=v0:=by decide +kernel
theorem mk2:mkL s0 raw2 2=v0:=by decide +kernel
theorem ne1:∀ i<2,nE s0 i (raw1.getD i [])=0:=by decide +kernel
theorem ne2:∀ i<2,nE s0 i (raw2.getD i [])=0:=by decide +kernel
def w0 (i:Nat):Int × List Int:=fldW s0 (P0.getD i Pm.z) (5,0) ⟨1,1,v0⟩ i
set_option maxRecDepth 100000 in
theorem dc0:dice ⟨(w0 0).1,(w0 0).2⟩ ⟨(w0 0).1,(w0 0).2⟩=1000:=by decide +kernel
set_option maxRecDepth 100000 in
theorem dc1:dice ⟨(w0 1).1,(w0 1).2⟩ ⟨(w0 1).1,(w0 1).2⟩=1000:=by decide +kernel
theorem s0_ok:s0.ok:=by
 refine ⟨by decide,by decide,by decide +kernel,fun i j h1 h2=>?_,by decide,⟨by decide,by decide,by decide⟩,by decide +kernel⟩;have h3:j<2:=h2
 obtain ⟨rfl,rfl⟩:i=0/\j=1:=by omega
 decide
theorem v0_ok (a b:Int) (h:1<=a/\a<=1048576/\1<=b/\b<=1048576):(Rc.mk a b v0).ok s0:=by
 refine ⟨h.1,h.2.1,h.2.2.1,h.2.2.2,rfl,fun i hi=>?_⟩;have h2:i<2:=hi
 have e:∀ i<2,nB s0 i (v0.getD i [])=true/\(v0.getD i []).length<=64/\(v0.getD i []).all isAn=true:=by decide +kernel
 obtain ⟨e1,e2,e3⟩:=e i h2;exact ⟨e1,e2,fun c hc=>.inl (List.all_eq_true.1 e3 c hc)⟩
theorem P0_ok:PsOk s0.f.length fun i=>P0.getD i Pm.z:=by
 have e:∀ i,i<s0.f.length->i=0\/i=1:=fun i hi=>by have:i<2:=hi;omega
 refine ⟨fun i hi=>?_,fun i hi=>?_,fun i hi=>?_⟩<;>rcases e i hi with rfl | rfl
 ·exact ⟨.inl rfl,by decide,by decide,by decide,by decide⟩
 ·exact ⟨.inr (.inl rfl),by decide,by decide,by decide,by decide⟩
 all_goals decide
theorem enc0_ct (a b:Int) (h:1<=a/\a<=1048576/\1<=b/\b<=1048576):Cr 18 [s0.d,.tab 3 2 fun i=>(P0.getD i Pm.z).l,.agg [u64 5,u64 0],(Rc.mk a b v0).d] (.tup [.agg [i64 a,i64 b,.tab 2 2 fun i=>bitL (w0 i)],i64 0]) :=
 erecord_ct s0 s0_ok (fun i=>P0.getD i Pm.z) P0_ok (5,0) ⟨a,b,v0⟩ (v0_ok a b h) w0 fun i hi=>fieldR_ct set_ok s0 s0_ok _ P0_ok (5,0) ⟨a,b,v0⟩ (v0_ok a b h) i hi
theorem cmpW_ct (W:Nat->Int × List Int) (hW:∀ i,i<2->(Bs.mk (W i).1 (W i).2).ok) (hd:∀ i,i<2->dice ⟨(W i).1,(W i).2⟩ ⟨(W i).1,(W i).2⟩=1000) (a b c d:Int):Cr 19 [.agg [i64 a,i64 b,.tab 2 2 fun i=>bitL (W i)],.agg [i64 c,i64 d,.tab 2 2 fun i=>bitL (W i)]] (.tup [.tab 1 2 fun _=>[i64 1000],i64 0]):=by
 obtain ⟨f,hf⟩:∃ f:List Bs,f = [⟨(W 0).1,(W 0).2⟩,⟨(W 1).1,(W 1).2⟩]:=⟨_,rfl⟩
 have hn:f.length=2:=by rw [hf];rfl
 have hg:∀ i,i<2->f.getD i Bs.z=⟨(W i).1,(W i).2⟩:=fun i hi=>by
  rw [hf]
  obtain rfl | rfl:i=0\/i=1:=by omega
  all_goals rfl
 have hok:∀ i,i<f.length->(f.getD i Bs.z).ok:=fun i hi=>by rw [hg i (by omega)];exact hW i (by omega)
 have h1:=compare_ct' ⟨a,b,f⟩ ⟨c,d,f⟩ (by rw [hn];decide) (by rw [hn];decide) rfl hok hok fun _ _=>rfl
 have hb:∀ i,i<f.length->bitL (W i)=(f.getD i Bs.z).l:=fun i hi=>by rw [hg i (by omega)];rfl
 have h2:=h1.arg (args:=[.agg [i64 a,i64 b,.tab 2 2 fun i=>bitL (W i)],.agg [i64 c,i64 d,.tab 2 2 fun i=>bitL (W i)]]) ⟨rfl,⟨rfl,rfl,⟨hn.symm,fun i hi=>hb i hi⟩,trivial⟩,⟨rfl,rfl,⟨hn.symm,fun i hi=>hb i hi⟩,trivial⟩,trivial⟩;refine Ct.res (h2.mono ?_)
 rintro r outs ⟨rfl,rfl⟩
 have hd1:∀ i,i<2->(dices f f f.length).getD i 0=1000:=fun i hi=>by
  rw [hn]
  have:(dices f f 2).getD i 0=dice (f.getD i Bs.z) (f.getD i Bs.z):=by simp [dices,List.getD,hi]
  rw [this,hg i hi];exact hd i hi
 refine ⟨_,_,⟨rfl,rfl⟩,⟨⟨?_,fun i hi=>?_⟩,rfl,trivial⟩,trivial⟩
 ·rw [dices_len];exact hn
 ·show [D.int IntKind.i64 ((dices f f f.length).getD i 0)]=_
  rw [hd1 i hi]
theorem raw_at (s:Sc) {g:FuncId} {R:D->List D->Prop} (a b:Int) (raws:List Str) (f:Nat->List D) (hf:∀ i,i<2->f i = [.str (raws.getD i [])]) (hn:raws.length=2) (H:Ct Tryz.prog g [s.d,i64 a,i64 b,strs raws] R):Ct Tryz.prog g [s.d,i64 a,i64 b,.tab 1 2 f] R :=
 H.arg ⟨rfl,⟨⟨rfl,fun _ _=>rfl⟩,⟨rfl,fun _ _=>rfl⟩,⟨rfl,fun _ _=>rfl⟩,⟨rfl,fun _ _=>rfl⟩,trivial⟩,rfl,rfl,⟨hn.symm,fun i hi=>hf i (by omega)⟩,trivial⟩
theorem awake_ct:Cr 4 [] (.bool true):=by
 have g1:=make_ct s0 s0_ok 1 1 (by decide) raw1 rfl (by decide) ne1;have g2:=make_ct s0 s0_ok 8 2 (by decide) raw2 rfl (by decide) ne2;rw [show s0.f.length=2 from rfl] at g1 g2;rw [mk1] at g1;rw [mk2] at g2
 replace g1:=fun f hf=>raw_at s0 1 1 raw1 f hf rfl g1
 replace g2:=fun f hf=>raw_at s0 8 2 raw2 f hf rfl g2
 have g3:=enc0_ct 1 1 (by decide);have g4:=enc0_ct 8 2 (by decide)
 have hW:∀ i,i<2->(Bs.mk (w0 i).1 (w0 i).2).ok:=fun i hi=>by
  rcases fld_ok s0 (P0.getD i Pm.z) (P0_ok.p i hi) (5,0) ⟨1,1,v0⟩ i with h | h
  ·exfalso
   have:∀ i<2,(w0 i).2≠[]:=by decide +kernel
   exact this i hi (by unfold w0;rw [h])
  ·exact ⟨h.L,h.n⟩
 have g5:=cmpW_ct w0 hW (fun i hi=>by
  obtain rfl | rfl:i=0\/i=1:=by omega
  ·exact dc0
  ·exact dc1) 1 1 8 2
 have g6:=scheck_ct s0 s0_ok;generalize w0=W at *;refine .det (De Tryz.func4 [] [2] ?_)
 repeat' first|refine S0 ?_;conv=>whnf
 refine Cw [] [] (α:=Unit) (fun u=>[(1,.loc 0 0),(2,.tab 3 2 fun i=>(P0.getD i Pm.z).l)]) (fun u=>[(0,.var s0.l)]) 1 (fun u=>True) ?_ ?_
 ·repeat' first|refine S0 ?_;conv=>whnf
  refine Again.by () trivial ?_
  repeat' first|refine S0 ?_;conv=>whnf|exact T0|(exact ⟨rfl,fun i hi=>match i,hi with | 0,_=>rfl | 1,_=>rfl⟩)|(exact ⟨rfl,fun i hi=>match i,hi with | 0,_=>rfl⟩)|refine Vm ?_ ?_
 ·intro _ _
  repeat' first|refine S0 ?_;conv=>whnf|refine Vo ?_|exact T0|refine B1 ?_|(refine CallOK.ctF (g:=17) (Step.out ?_))|(refine M0 (g1 _ fun i hi=>match i,hi with | 0,_=>rfl | 1,_=>rfl) ?_)|(refine M0 (g2 _ fun i hi=>match i,hi with | 0,_=>rfl | 1,_=>rfl) ?_)|(refine M0 g3 ?_)|(refine M0 g4 ?_)|(refine M0 g5 ?_)|(refine M0 (pattern2_ct.arg ⟨rfl,⟨rfl,fun i hi=>match i,hi with | 0,_=>rfl | 1,_=>rfl⟩,⟨rfl,fun _ _=>rfl⟩,trivial⟩) ?_)|(refine M0 g6 ?_)|refine T2 ?_ ?_|refine K0 ?_|refine Vm ?_ ?_
  exact ⟨trivial,trivial,trivial⟩
end Kx
open Go Sx Go.Proofs
namespace Kx
def cmpI_c (a b:Int):Int:=if a<b then -1 else if a > b then 1 else 0
def cmpS (a b:Str):Int:=bif Op.bytesLess a b then -1 else if a=b then 0 else 1
theorem isnan_ct_c (a:Int):Cr 229 [i64 a] (.bool false):=by
 refine .det (De Tryz.func229 [] [] ?_)
 repeat' first|refine S0 ?_;conv=>whnf|exact T0|refine T2 ?_ ?_
 all_goals first
  | trivial
  | exact hb h
  | with_reducible rfl
  | with_reducible exact same_rfl
  | omega
  | ((simp;done))
theorem compare_ct (a b:Int):Cr 167 [i64 a,i64 b] (i64 (cmpI_c a b)):=by
 refine .det (De Tryz.func167 [] [] ?_)
 repeat' first|refine S0 ?_;conv=>whnf|exact T0|with_reducible refine Br.ff ?_|(refine Br.d (fun h=>?_) fun h=>?_)|refine T2 ?_ ?_|refine K0 ?_|(refine M0 (g:=229) (isnan_ct_c _) ?_)
 all_goals first
  | trivial
  | exact hb h
  | with_reducible rfl
  | with_reducible exact same_rfl
  | omega
  | ((simp only [cmpI_c];repeat' split<;>omega))
  | ((simp [cmpI_c, *];done))
  | ((simp [cmpI_c, *];omega))
theorem less_irr:∀ a:Str,Op.bytesLess a a=false
 | []=>rfl
 | x :: a=>by
   rw [Op.bytesLess,less_irr a];simp
theorem less_trans:∀ {a b c:Str},Op.bytesLess a b=true->Op.bytesLess b c=true->Op.bytesLess a c=true
 | _,_,[],_,h2=>by simp [Op.bytesLess] at h2
 | _,[],_ :: _,h1,_=>by simp [Op.bytesLess] at h1
 | [],_ :: _,_ :: _,_,_=>rfl
 | x :: a,y :: b,z :: c,h1,h2=>by
   simp only [Op.bytesLess,Bool.or_eq_true,bat,decide_eq_true_eq,beq_iff_eq] at h1 h2 ⊢
   rcases h1 with h1 | ⟨rfl,h1⟩
   ·rcases h2 with h2 | ⟨rfl,h2⟩
    ·exact .inl (UInt8.lt_trans h1 h2)
    ·exact .inl h1
   ·rcases h2 with h2 | ⟨rfl,h2⟩
    ·exact .inl h2
    ·exact .inr ⟨rfl,less_trans h1 h2⟩
theorem less_tri:∀ a b:Str,Op.bytesLess a b=true\/a=b\/Op.bytesLess b a=true
 | [],[]=>.inr (.inl rfl)| [],_ :: _=>.inl rfl| _ :: _,[]=>.inr (.inr rfl)
 | x :: a,y :: b=>by
   simp only [Op.bytesLess,Bool.or_eq_true,bat,decide_eq_true_eq,beq_iff_eq,List.cons.injEq]
   rcases (show x<y\/x=y\/y<x by
    rcases Nat.lt_trichotomy x.toNat y.toNat with h | h | h
    ·exact .inl (UInt8.lt_iff_toNat_lt.2 h)
    ·exact .inr (.inl (UInt8.toNat_inj.1 h))
    ·exact .inr (.inr (UInt8.lt_iff_toNat_lt.2 h))) with h | rfl | h
   ·exact .inl (.inl h)
   ·rcases less_tri a b with h | rfl | h
    ·exact .inl (.inr ⟨rfl,h⟩)
    ·exact .inr (.inl ⟨rfl,rfl⟩)
    ·exact .inr (.inr (.inr ⟨rfl,h⟩))
   ·exact .inr (.inr (.inl h))
theorem less_asym {a b:Str} (h:Op.bytesLess a b=true):Op.bytesLess b a=false:=by
 cases h' : Op.bytesLess b a with
 | false=>rfl| true=>rw [<-less_irr a,less_trans h h']
structure Cmp {α:Type} (f:α->α->Int):Prop where
 tri:∀ a b,f a b = -1\/f a b=0\/f a b=1
 eq:∀ a b,f a b=0 ↔ a=b
 sym:∀ a b,f b a = - f a b
 trans:∀ a b c,f a b = -1->f b c = -1->f a c = -1
theorem cmpI_ok:Cmp cmpI_c:=by
 refine ⟨fun a b=>?_,fun a b=>?_,fun a b=>?_,fun a b c h1 h2=>?_⟩<;>simp only [cmpI_c] at *<;>(repeat' split at *)<;>omega
theorem cmpS_ok:Cmp cmpS:=by
 have lt:∀ a b,cmpS a b = -1 ↔ Op.bytesLess a b=true:=fun a b=>by
  rw [cmpS];cases h:Op.bytesLess a b with
  | true=>simp
  | false=>rw [cond_false];split<;>simp
 have eq:∀ a b,cmpS a b=0 ↔ a=b:=fun a b=>by
  rw [cmpS];cases h:Op.bytesLess a b with
  | true =>
    rw [cond_true];refine ⟨fun h=>by omega,fun e=>?_⟩;subst e;rw [less_irr] at h;cases h
  | false=>rw [cond_false];split<;>simp_all
 have gt:∀ a b,Op.bytesLess b a=true->cmpS a b=1:=fun a b h=>by
  rw [cmpS,less_asym h,cond_false,if_neg]
  rintro rfl;rw [less_irr] at h;cases h
 refine ⟨fun a b=>?_,eq,fun a b=>?_,fun a b c h1 h2=>(lt a c).2 (less_trans ((lt a b).1 h1) ((lt b c).1 h2))⟩
 ·rcases less_tri a b with h | h | h
  ·exact .inl ((lt a b).2 h)
  ·exact .inr (.inl ((eq a b).2 h))
  ·exact .inr (.inr (gt a b h))
 ·rcases less_tri a b with h | h | h
  ·rw [(lt a b).2 h,gt b a h];rfl
  ·subst h;rw [(eq a a).2 rfl];rfl
  ·rw [(lt b a).2 h,gt a b h]
def cmp2 {α β:Type} (f:α->α->Int) (g:β->β->Int) (x y:α × β):Int:=if f x.1 y.1≠0 then f x.1 y.1 else g x.2 y.2
theorem Cmp.two {α β:Type} {f:α->α->Int} {g:β->β->Int} (F:Cmp f) (G:Cmp g):Cmp (cmp2 f g):=by
 refine ⟨fun a b=>?_,fun a b=>?_,fun a b=>?_,fun a b c h1 h2=>?_⟩
 ·rw [cmp2];split
  ·exact F.tri _ _
  ·exact G.tri _ _
 ·rw [cmp2];split
  ·rename_i h;refine ⟨fun e=>absurd e h,fun e=>?_⟩;subst e;exact absurd ((F.eq _ _).2 rfl) h
  ·rename_i h;have h:=(F.eq _ _).1 (Classical.not_not.1 h);rw [G.eq];exact ⟨fun e=>Prod.ext h e,fun e=>by rw [e]⟩
 ·have hs:=F.sym a.1 b.1;rw [cmp2,cmp2];by_cases h:f a.1 b.1=0
  ·rw [if_neg (by omega),if_neg (by omega)];exact G.sym _ _
  ·rw [if_pos (by omega),if_pos (by omega)];exact hs
 ·rw [cmp2] at *;by_cases h:f a.1 b.1=0
  ·rw [if_neg (by omega)] at h1;have e:=(F.eq _ _).1 h;by_cases h' : f b.1 c.1=0
   ·rw [if_neg (by omega)] at h2;have e':=(F.eq _ _).1 h';rw [if_neg (by rw [e,e'];exact not_not_intro ((F.eq _ _).2 rfl))];exact G.trans _ _ _ h1 h2
   ·rw [if_pos h'] at h2;rw [e,if_pos h'];exact h2
  ·rw [if_pos h] at h1;by_cases h' : f b.1 c.1=0
   ·have e':=(F.eq _ _).1 h';rw [<-e',if_pos h];exact h1
   ·rw [if_pos h'] at h2;have:=F.trans _ _ _ h1 h2;rw [if_pos (by omega)];exact this
def mx {α:Type} (f:α->α->Int) (a b:α):α:=if f a b<0 then b else a
def cmpL {α:Type} (f:α->α->Int):List α->List α->Int
 | [],[]=>0| [],_ :: _=>-1| _ :: _,[]=>1
 | a :: x,b :: y=>if f a b≠0 then f a b else cmpL f x y
theorem Cmp.list {α:Type} {f:α->α->Int} (F:Cmp f):Cmp (cmpL f):=by
 have tri:∀ a b,cmpL f a b = -1\/cmpL f a b=0\/cmpL f a b=1:=fun a=>by
  induction a with
  | nil=>intro b;cases b<;>simp [cmpL]
  | cons x a ih =>
    intro b
    cases b with
    | nil=>simp [cmpL]
    | cons y b =>
      rw [cmpL];split
      ·exact F.tri _ _
      ·exact ih b
 have eq:∀ a b,cmpL f a b=0 ↔ a=b:=fun a=>by
  induction a with
  | nil=>intro b;cases b<;>simp [cmpL]
  | cons x a ih =>
    intro b
    cases b with
    | nil=>simp [cmpL]
    | cons y b =>
      rw [cmpL,List.cons.injEq];split
      ·rename_i h;exact ⟨fun e=>absurd e h,fun e=>absurd ((F.eq _ _).2 e.1) h⟩
      ·rename_i h;have h:=(F.eq _ _).1 (Classical.not_not.1 h);rw [ih];exact ⟨fun e=>⟨h,e⟩,fun e=>e.2⟩
 have sym:∀ a b,cmpL f b a = - cmpL f a b:=fun a=>by
  induction a with
  | nil=>intro b;cases b<;>rfl
  | cons x a ih =>
    intro b
    cases b with
    | nil=>rfl
    | cons y b =>
      have hs:=F.sym x y;rw [cmpL,cmpL];by_cases h:f x y=0
      ·rw [if_neg (by omega),if_neg (by omega)];exact ih b
      ·rw [if_pos (by omega),if_pos (by omega)];exact hs
 have trans:∀ a b c,cmpL f a b = -1->cmpL f b c = -1->cmpL f a c = -1:=fun a=>by
  induction a with
  | nil =>
    intro b c h1 h2
    cases b with
    | nil=>simp [cmpL] at h1
    | cons y b=>cases c with
      | nil=>simp [cmpL] at h2| cons z c=>rfl
  | cons x a ih =>
    intro b c h1 h2
    cases b with
    | nil=>simp [cmpL] at h1
    | cons y b=>cases c with
      | nil=>simp [cmpL] at h2
      | cons z c =>
        rw [cmpL] at *;by_cases h:f x y=0
        ·rw [if_neg (by omega)] at h1;have e:=(F.eq _ _).1 h;by_cases h' : f y z=0
         ·rw [if_neg (by omega)] at h2;have e':=(F.eq _ _).1 h';rw [if_neg (by rw [e,e'];exact not_not_intro ((F.eq _ _).2 rfl))];exact ih _ _ h1 h2
         ·rw [if_pos h'] at h2;rw [e,if_pos h'];exact h2
        ·rw [if_pos h] at h1;by_cases h' : f y z=0
         ·have e':=(F.eq _ _).1 h';rw [<-e',if_pos h];exact h1
         ·rw [if_pos h'] at h2;have:=F.trans _ _ _ h1 h2;rw [if_pos (by omega)];exact this
 exact ⟨tri,eq,sym,trans⟩
abbrev cmpV:=cmpL cmpS
theorem cmpV_ok:Cmp cmpV:=cmpS_ok.list
end Kx
open Go Sx Go.Proofs
namespace Kx
theorem cmpV_step (a b:List Str) (i:Nat) (ha:i<a.length) (hb:i<b.length):cmpV (a.drop i) (b.drop i)=if cmpS (a.getD i []) (b.getD i [])≠0 then cmpS (a.getD i []) (b.getD i []) else cmpV (a.drop (i+1)) (b.drop (i+1)):=by
 rw [drop_step a [] i ha,drop_step b [] i hb];rfl
def orI_c:List Int->Int
 | []=>0
 | x :: l=>if x≠0 then x else orI_c l
theorem or_ct_c (l:List Int) (hl:l.length<=1000000):Cr 166 [ints l] (i64 (orI_c l)):=by
 refine .det (De Tryz.func166 [] [] ?_)
 repeat' first|refine S0 ?_;conv=>whnf
 refine Lw [] [] (α:=Nat) (fun i=>[(3,i64 0),(6,ints l),(7,i64 l.length),(8,i64 i)]) (fun i=>[]) 0 (fun i=>i<=l.length/\orI_c l=orI_c (l.drop i)) (fun i=>l.length - i) ?_ ?_
 ·refine Again.by 0 ⟨zle _,rfl⟩ ?_
  repeat' first|refine S0 ?_;conv=>whnf|refine Vo ?_|exact T0
 ·intro i ⟨h1,hv⟩
  repeat' first|refine S0 ?_;conv=>whnf|refine Vo ?_|exact T0|refine W6 ?_|(refine Br.d (fun h=>?_) fun h=>?_)|refine Br.bnot ?_|refine T2 ?_ ?_
  all_goals try simp only [tnc] at *
  ·refine Again.by (i+1) ⟨⟨by omega,by rw [hv,drop_step l 0 i (by omega),orI_c,if_neg (not_not_intro h)]⟩,by omega⟩ ?_
   repeat' first|refine S0 ?_;conv=>whnf|refine Vo ?_|exact T0
  ·rw [hv,drop_step l 0 i (by omega),orI_c,if_pos h]
  ·rw [hv,ddl (show l.length<=i by omega)];rfl
theorem orL_ct (l:List Int) (hl:l.length<=1000000):Cr 166 [.tab 1 l.length fun i=>selC (l.map fun x=>[i64 x]) i] (i64 (orI_c l)) :=
 (or_ct_c l hl).arg ⟨rfl,⟨rfl,fun i hi=>selC_get (fun x:Int=>[i64 x]) 0 (fun _ _=>rfl) l i hi⟩,trivial⟩
structure Rw where
 id:Int
 ver:Int
 vals:List Str
 sv:Int
 st:Int
 into:Int
def Rw.f (r:Rw):List D:=[i64 r.id,i64 r.ver,strs r.vals,i64 r.sv,i64 r.st,i64 r.into]
def Rw.d (r:Rw):D:=.agg r.f
def Rw.z:Rw:=⟨0,0,[],0,0,0⟩
def rws (l:List Rw):D:=.tab 6 l.length fun i=>Rw.f (l.getD i Rw.z)
def rwsO (e:Nat) (l:List Rw):D:=.ftab e 6 l.length fun i=>Rw.f (l.getD i Rw.z)
def cont (a b:Rw):Int:=cmp2 cmpI_c cmpV (a.ver,a.vals) (b.ver,b.vals)
def stat (a b:Rw):Int:=cmp2 cmpI_c (cmp2 cmpI_c cmpI_c) (a.sv,a.st,a.into) (b.sv,b.st,b.into)
def idB (n:Int):Bool:=decide (1<=n) && decide (n<=1048576)
def verB (n:Int):Bool:=decide (0<=n) && decide (n<=1048576)
def valsB (l:List Str):Bool:=decide (1<=l.length) && decide (l.length<=5) && !(l.any fun s=>decide (64<s.length))
def statB (of st into:Int):Bool:=if st=2 then idB into && !decide (into=of) else if st=0\/st=1\/st=3 then decide (into=0) else false
theorem id_ct_c (n:Int):Cr 58 [i64 n] (.bool (idB n)):=by
 refine .det (De Tryz.func58 [] [] ?_)
 repeat' first|refine S0 ?_;conv=>whnf|exact T0|(refine Br.d (fun h=>?_) fun h=>?_)|refine T2 ?_ ?_
 all_goals first
  | trivial
  | exact hb h
  | with_reducible rfl
  | with_reducible exact same_rfl
  | omega
  | ((simp [idB, *];done))
  | ((simp [idB, *];omega))
theorem version_ct (n:Int):Cr 59 [i64 n] (.bool (verB n)):=by
 refine .det (De Tryz.func59 [] [] ?_)
 repeat' first|refine S0 ?_;conv=>whnf|exact T0|(refine Br.d (fun h=>?_) fun h=>?_)|refine T2 ?_ ?_
 all_goals first
  | trivial
  | exact hb h
  | with_reducible rfl
  | with_reducible exact same_rfl
  | omega
  | ((simp [verB, *];done))
  | ((simp [verB, *];omega))
theorem status_ct (a b c:Int):Cr 101 [i64 a,i64 b,i64 c] (.bool (statB a b c)):=by
 refine .det (De Tryz.func101 [] [] ?_)
 repeat' first|refine S0 ?_;conv=>whnf|exact T0|refine B1 ?_|(refine Br.d (fun h=>?_) fun h=>?_)|(refine Bm (fun h=>?_) fun h=>?_)|refine T2 ?_ ?_|refine K0 ?_|(refine M0 (g:=58) (id_ct_c _) ?_)
 ·subst b;rw [statB,if_pos rfl,h,Bool.true_and]
 ·subst b;rw [statB,if_pos rfl,show idB c=false from h,Bool.false_and]
 ·rw [statB,if_neg ‹_›,if_pos (by omega)]
 ·rw [statB,if_neg ‹_›,if_pos (by omega)]
 ·rw [statB,if_neg ‹_›,if_pos (by omega)]
 ·rw [statB,if_neg ‹_›,if_neg (by omega)]
end Kx
