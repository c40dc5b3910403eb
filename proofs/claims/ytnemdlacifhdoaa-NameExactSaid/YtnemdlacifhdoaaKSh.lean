/-
  The kit's contracts of Go's library, laid at this program.
  No condition beyond those written in each theorem.
-/
import Derived.Shelf.Strings.Builder1
import Derived.Shelf.Strings.Builder2
import Derived.Shelf.Strings.OnBuilder
import Derived.Shelf.Strings.FieldsFuncAny
import Derived.Shelf.Strings.FieldsFuncGrows
import Derived.Test.YtnemdlacifhdoaaProg
namespace Go.Proofs
open Go.Shelf
def Kx.lays169_ren : Go.Shelf.Ren := ⟨fun | 169 => 58 | n => n, fun | 70 => 68 | 9 => 9 | 0 => 0 | 72 => 70 | 37 => 55 | 127 => 83 | 3 => 3 | 5 => 5 | n => n, fun | n => n⟩
theorem Kx.lays169 : Go.Proofs.Lays.n169 Try.prog Kx.lays169_ren := {
  mixed := by kernel_rfl
  f169 := Try.func58.trans (congrArg some (by kernel_rfl))
  t0 := Try.underlying0
  a0 := Try.isAgg0
  z0 := Try.sizeOf0
  v0 := Try.zeroValue0
  t3 := Try.underlying3
  a3 := Try.isAgg3
  z3 := Try.sizeOf3
  v3 := Try.zeroValue3
  t9 := Try.underlying9
  a9 := Try.isAgg9
  z9 := Try.sizeOf9
  v9 := Try.zeroValue9
  t37 := Try.underlying55
  a37 := Try.isAgg55
  z37 := Try.sizeOf55
  v37 := Try.zeroValue55
  t70 := Try.underlying68
  a70 := Try.isAgg68
  z70 := Try.sizeOf68
  v70 := Try.zeroValue68
  t72 := Try.underlying70
  a72 := Try.isAgg70
  z72 := Try.sizeOf70
  v72 := Try.zeroValue70
  t127 := Try.underlying83
  a127 := Try.isAgg83
  z127 := Try.sizeOf83
  v127 := Try.zeroValue83 }
theorem Kx.Builder_Extra_169 : Builder.Extra Try.prog Kx.lays169_ren := {
  sizeBuilder := by kernel_rfl
  liesBuilder := by kernel_rfl
  t5 := Try.underlying5
  a5 := Try.isAgg5
  z5 := Try.sizeOf5
  v5 := Try.zeroValue5
  infoByte := by kernel_rfl
  cellsByte := by kernel_rfl
  sizeByte := by kernel_rfl
  neB5 := by decide }
def Kx.lays241_ren : Go.Shelf.Ren := ⟨fun | 241 => 73 | 277 => 74 | n => n, fun | 70 => 68 | 3 => 3 | 0 => 0 | 72 => 70 | 37 => 55 | 5 => 5 | n => n, fun | n => n⟩
theorem Kx.lays241 : Go.Proofs.Lays.n241 Try.prog Kx.lays241_ren := {
  mixed := by kernel_rfl
  f241 := Try.func73.trans (congrArg some (by kernel_rfl))
  f277 := Try.func74.trans (congrArg some (by kernel_rfl))
  t0 := Try.underlying0
  a0 := Try.isAgg0
  z0 := Try.sizeOf0
  v0 := Try.zeroValue0
  t3 := Try.underlying3
  a3 := Try.isAgg3
  z3 := Try.sizeOf3
  v3 := Try.zeroValue3
  t37 := Try.underlying55
  a37 := Try.isAgg55
  z37 := Try.sizeOf55
  v37 := Try.zeroValue55
  t70 := Try.underlying68
  a70 := Try.isAgg68
  z70 := Try.sizeOf68
  v70 := Try.zeroValue68
  t72 := Try.underlying70
  a72 := Try.isAgg70
  z72 := Try.sizeOf70
  v72 := Try.zeroValue70 }
theorem Kx.Builder_Extra_241 : Builder.Extra Try.prog Kx.lays241_ren := {
  sizeBuilder := by kernel_rfl
  liesBuilder := by kernel_rfl
  t5 := Try.underlying5
  a5 := Try.isAgg5
  z5 := Try.sizeOf5
  v5 := Try.zeroValue5
  infoByte := by kernel_rfl
  cellsByte := by kernel_rfl
  sizeByte := by kernel_rfl
  neB5 := by decide }
def Kx.lays165_ren : Go.Shelf.Ren := ⟨fun | 165 => 71 | 240 => 69 | 241 => 73 | 276 => 72 | 277 => 74 | n => n, fun | 70 => 68 | 3 => 3 | 0 => 0 | 4 => 4 | 9 => 9 | 20 => 20 | 72 => 70 | 37 => 55 | 164 => 88 | 5 => 5 | n => n, fun | n => n⟩
theorem Kx.lays165 : Go.Proofs.Lays.n165 Try.prog Kx.lays165_ren := {
  mixed := by kernel_rfl
  f165 := Try.func71.trans (congrArg some (by kernel_rfl))
  f240 := Try.func69.trans (congrArg some (by kernel_rfl))
  f241 := Try.func73.trans (congrArg some (by kernel_rfl))
  f276 := Try.func72.trans (congrArg some (by kernel_rfl))
  f277 := Try.func74.trans (congrArg some (by kernel_rfl))
  t0 := Try.underlying0
  a0 := Try.isAgg0
  z0 := Try.sizeOf0
  v0 := Try.zeroValue0
  t3 := Try.underlying3
  a3 := Try.isAgg3
  z3 := Try.sizeOf3
  v3 := Try.zeroValue3
  t4 := Try.underlying4
  a4 := Try.isAgg4
  z4 := Try.sizeOf4
  v4 := Try.zeroValue4
  t9 := Try.underlying9
  a9 := Try.isAgg9
  z9 := Try.sizeOf9
  v9 := Try.zeroValue9
  t20 := Try.underlying20
  a20 := Try.isAgg20
  z20 := Try.sizeOf20
  v20 := Try.zeroValue20
  t37 := Try.underlying55
  a37 := Try.isAgg55
  z37 := Try.sizeOf55
  v37 := Try.zeroValue55
  t70 := Try.underlying68
  a70 := Try.isAgg68
  z70 := Try.sizeOf68
  v70 := Try.zeroValue68
  t72 := Try.underlying70
  a72 := Try.isAgg70
  z72 := Try.sizeOf70
  v72 := Try.zeroValue70
  t164 := Try.underlying88
  a164 := Try.isAgg88
  z164 := Try.sizeOf88
  v164 := Try.zeroValue88 }
theorem Kx.Builder_Extra_165 : Builder.Extra Try.prog Kx.lays165_ren := {
  sizeBuilder := by kernel_rfl
  liesBuilder := by kernel_rfl
  t5 := Try.underlying5
  a5 := Try.isAgg5
  z5 := Try.sizeOf5
  v5 := Try.zeroValue5
  infoByte := by kernel_rfl
  cellsByte := by kernel_rfl
  sizeByte := by kernel_rfl
  neB5 := by decide }
def Kx.lays156_ren : Go.Shelf.Ren := ⟨fun | 156 => 62 | 165 => 71 | 166 => 56 | 169 => 58 | 240 => 69 | 241 => 73 | 276 => 72 | 277 => 74 | n => n, fun | 31 => 27 | 9 => 9 | 3 => 3 | 4 => 4 | 0 => 0 | 20 => 20 | 72 => 70 | 76 => 74 | 70 => 68 | 37 => 55 | 75 => 73 | 127 => 83 | 164 => 88 | 5 => 5 | 80 => 33 | n => n, fun | n => n⟩
theorem Kx.lays156 : Go.Proofs.Lays.n156 Try.prog Kx.lays156_ren := {
  mixed := by kernel_rfl
  f156 := Try.func62.trans (congrArg some (by kernel_rfl))
  f165 := Try.func71.trans (congrArg some (by kernel_rfl))
  f166 := Try.func56.trans (congrArg some (by kernel_rfl))
  f169 := Try.func58.trans (congrArg some (by kernel_rfl))
  f240 := Try.func69.trans (congrArg some (by kernel_rfl))
  f241 := Try.func73.trans (congrArg some (by kernel_rfl))
  f276 := Try.func72.trans (congrArg some (by kernel_rfl))
  f277 := Try.func74.trans (congrArg some (by kernel_rfl))
  t0 := Try.underlying0
  a0 := Try.isAgg0
  z0 := Try.sizeOf0
  v0 := Try.zeroValue0
  t3 := Try.underlying3
  a3 := Try.isAgg3
  z3 := Try.sizeOf3
  v3 := Try.zeroValue3
  t4 := Try.underlying4
  a4 := Try.isAgg4
  z4 := Try.sizeOf4
  v4 := Try.zeroValue4
  t9 := Try.underlying9
  a9 := Try.isAgg9
  z9 := Try.sizeOf9
  v9 := Try.zeroValue9
  t20 := Try.underlying20
  a20 := Try.isAgg20
  z20 := Try.sizeOf20
  v20 := Try.zeroValue20
  t31 := Try.underlying27
  a31 := Try.isAgg27
  z31 := Try.sizeOf27
  v31 := Try.zeroValue27
  t37 := Try.underlying55
  a37 := Try.isAgg55
  z37 := Try.sizeOf55
  v37 := Try.zeroValue55
  t70 := Try.underlying68
  a70 := Try.isAgg68
  z70 := Try.sizeOf68
  v70 := Try.zeroValue68
  t72 := Try.underlying70
  a72 := Try.isAgg70
  z72 := Try.sizeOf70
  v72 := Try.zeroValue70
  t75 := Try.underlying73
  a75 := Try.isAgg73
  z75 := Try.sizeOf73
  v75 := Try.zeroValue73
  t76 := Try.underlying74
  a76 := Try.isAgg74
  z76 := Try.sizeOf74
  v76 := Try.zeroValue74
  t127 := Try.underlying83
  a127 := Try.isAgg83
  z127 := Try.sizeOf83
  v127 := Try.zeroValue83
  t164 := Try.underlying88
  a164 := Try.isAgg88
  z164 := Try.sizeOf88
  v164 := Try.zeroValue88 }
theorem Kx.Builder_Extra_156 : Builder.Extra Try.prog Kx.lays156_ren := {
  sizeBuilder := by kernel_rfl
  liesBuilder := by kernel_rfl
  t5 := Try.underlying5
  a5 := Try.isAgg5
  z5 := Try.sizeOf5
  v5 := Try.zeroValue5
  infoByte := by kernel_rfl
  cellsByte := by kernel_rfl
  sizeByte := by kernel_rfl
  neB5 := by decide }
open Go.RowKit in
/-- No element: the empty string; the world is as it was. (Whatever the slice's address and capacity: a nil slice too.) (LAID: no walk: one application.) -/
theorem Kx.strings_Join_none (a : Option Addr) (c : Nat) (sep : ByteArray) (w : World) :
    Calls Try.prog 62 #[.slice a 0 c, .string sep] w fun e w' => e = .returned (.string ⟨#[]⟩) ∧ w' = w := Any.strings_Join_none Kx.lays156 Kx.Builder_Extra_156 a c sep w
open Go.RowKit in
/-- strings.Join: "Join concatenates the elements of its first argument to create a single string. The separator string sep is placed between elements in the resulting string.": HOWEVER MANY ELEMENTS. Below the heap's end the world is as it was. (LAID: no walk: one application.) -/
theorem Kx.strings_Join (bk o c : Nat) (xs : List ByteArray) (sep : ByteArray) (w : World) (hcells : ∀ (j : Nat) x, xs[j]? = some x → w.cell? ⟨bk, o + j, none⟩ = some (.string x)) (hbk : bk < w.heap.size) (hN : xs.length ≤ 140737488355328) (hcap : xs.length ≤ c) (hlen : (Lib.join (xs.map (·.data.toList)) sep.data.toList).length ≤ 140737488355328) :
    Calls Try.prog 62 #[.slice (some ⟨bk, o, none⟩) xs.length c, .string sep] w fun e w' => e = .returned (.string ⟨(Lib.join (xs.map (·.data.toList)) sep.data.toList).toArray⟩) ∧ Below w.heap.size w w' := Any.strings_Join Kx.lays156 Kx.Builder_Extra_156 bk o c xs sep w hcells hbk hN hcap hlen
def Kx.lays229_ren : Go.Shelf.Ren := ⟨fun | 229 => 59 | n => n, fun | 9 => 9 | 40 => 78 | 31 => 27 | 152 => 84 | 3 => 3 | 0 => 0 | 4 => 4 | 21 => 21 | 154 => 86 | n => n, fun | n => n⟩
theorem Kx.lays229 : Go.Proofs.Lays.n229 Try.prog Kx.lays229_ren := {
  mixed := by kernel_rfl
  f229 := Try.func59.trans (congrArg some (by kernel_rfl))
  t0 := Try.underlying0
  a0 := Try.isAgg0
  z0 := Try.sizeOf0
  v0 := Try.zeroValue0
  t3 := Try.underlying3
  a3 := Try.isAgg3
  z3 := Try.sizeOf3
  v3 := Try.zeroValue3
  t4 := Try.underlying4
  a4 := Try.isAgg4
  z4 := Try.sizeOf4
  v4 := Try.zeroValue4
  t9 := Try.underlying9
  a9 := Try.isAgg9
  z9 := Try.sizeOf9
  v9 := Try.zeroValue9
  t21 := Try.underlying21
  a21 := Try.isAgg21
  z21 := Try.sizeOf21
  v21 := Try.zeroValue21
  t31 := Try.underlying27
  a31 := Try.isAgg27
  z31 := Try.sizeOf27
  v31 := Try.zeroValue27
  t40 := Try.underlying78
  a40 := Try.isAgg78
  z40 := Try.sizeOf78
  v40 := Try.zeroValue78
  t152 := Try.underlying84
  a152 := Try.isAgg84
  z152 := Try.sizeOf84
  v152 := Try.zeroValue84
  t154 := Try.underlying86
  a154 := Try.isAgg86
  z154 := Try.sizeOf86
  v154 := Try.zeroValue86 }
open Go.RowKit Go.Lib in
theorem Kx.strings_FieldsFunc_grows (g : Nat) (lb : Array Value) (eg : ∀ args w, (callFunc g args).run Try.prog w = .ok (.enter g args) w) (p : Nat → Bool) (s : ByteArray) (w : World) (hs : s.size ≤ 4294967296) (hp : PredGrows Try.prog g lb p w) :
    Calls Try.prog 59 #[.string s, .func (.func g) #[] lb] w fun e w' => ∃ A, e = .returned (.slice (some ⟨A, 0, none⟩) (Lib.goFieldsP p s).length (Lib.goFieldsP p s).length) ∧ w.heap.size ≤ A ∧
      w'.ownsRow w.heap.size 9 1 (.slice (some ⟨A, 0, none⟩) (Lib.goFieldsP p s).length (Lib.goFieldsP p s).length) (Lib.goFieldsP p s).length ((Lib.goFieldsP p s).map Value.string) ∧ Below w.heap.size w w' := Any.strings_FieldsFunc_grows Kx.lays229 g lb eg p s w hs hp (by kernel_rfl) (by kernel_rfl)
end Go.Proofs
