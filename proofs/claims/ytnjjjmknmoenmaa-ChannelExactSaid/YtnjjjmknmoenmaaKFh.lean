/-
  The law Exact, as the given row hands over its arguments.
  No condition beyond those written in each theorem.
-/
import Derived.Test.YtnjjjmknmoenmaaKFg
open Go Sx Go.Proofs
set_option linter.unusedSimpArgs false
set_option linter.unusedVariables false
namespace Kx
abbrev Cr := Int × Int × List Str × List (Int × Str) × List (Int × Str) × List Int
def Cr.ch (r : Cr) : Ch := ⟨r.1, r.2.1, r.2.2.1, r.2.2.2.1, r.2.2.2.2.1, r.2.2.2.2.2⟩
theorem exactR_ct (y0 : List Int) (r : Cr) (p : Str) (i : Int) (h1 : r.2.2.1.length * 16 ≤ 140737488351232) (h2 : r.2.2.2.1.length * 24 ≤ 140737488351232) (h3 : r.2.2.2.2.1.length * 24 ≤ 140737488351232) (h4 : r.2.2.2.2.2.length * 8 ≤ 140737488351232) : Ct Try.prog 6 [ints y0, r.ch.d, .str p, i64 i] fun q _ => q = .bool true ∨ q = .lit true :=
  exact_ct y0 r.ch p i ⟨by show r.2.2.1.length ≤ _; omega, by show r.2.2.2.1.length ≤ _; omega, by show r.2.2.2.2.1.length ≤ _; omega, by show r.2.2.2.2.2.length ≤ _; omega⟩
end Kx
