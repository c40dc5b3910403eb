/-
  The types and the orders of the regions of this program, as the walk reads them.
  No condition beyond those written in each theorem.
-/
import Derived.Test.YteohonkidphofaaFC
import Derived.Test.YteohonkidphofaaProg
open Go Sx Go.Proofs
namespace Kx
def Γ : Ty := [
  (2, ⟨.int .i64, 1, 8, .int .i64 0⟩) /- int64 -/,
  (3, ⟨.int .i64, 1, 8, .int .i64 0⟩) /- int -/,
  (4, ⟨.bool, 1, 1, .lit false⟩) /- bool -/,
  (5, ⟨.int .u8, 1, 1, .int .u8 0⟩) /- uint8 -/,
  (9, ⟨.str, 1, 16, .str []⟩) /- string -/,
  (12, ⟨.int .u64, 1, 8, .int .u64 0⟩) /- uintptr -/,
  (21, ⟨.int .i32, 1, 4, .int .i32 0⟩) /- int32 -/,
  (22, ⟨.slice 3, 1, 24, .nil⟩) /- []int -/,
  (25, ⟨.ptr 44, 1, 8, .null⟩) /- *recordlinkmake.Deck -/,
  (27, ⟨.int .i64, 1, 8, .int .i64 0⟩) /- api.Errno -/,
  (32, ⟨.slice 9, 1, 24, .nil⟩) /- []string -/,
  (37, ⟨.slice 5, 1, 24, .nil⟩) /- []uint8 -/,
  (42, ⟨.int .u64, 1, 8, .int .u64 0⟩) /- uint64 -/,
  (43, ⟨.struct [(0, 1, 22), (1, 1, 3), (2, 1, 42)], 3, 40, .agg [.nil, .int .i64 0, .int .u64 0]⟩) /- struct { list []int; at int; state uint64 } -/,
  (44, ⟨.struct [(0, 1, 22), (1, 1, 3), (2, 1, 42)], 3, 40, .agg [.nil, .int .i64 0, .int .u64 0]⟩) /- recordlinkmake.Deck -/,
  (49, ⟨.arr 64 9, 64, 1024, .vec 64 fun _ => .str []⟩) /- [64]string -/,
  (51, ⟨.ptr 53, 1, 8, .null⟩) /- *strings.Builder -/,
  (52, ⟨.struct [(0, 1, 51), (1, 1, 37)], 2, 32, .agg [.null, .nil]⟩) /- struct { addr *strings.Builder; buf []uint8 } -/,
  (53, ⟨.struct [(0, 1, 51), (1, 1, 37)], 2, 32, .agg [.null, .nil]⟩) /- strings.Builder -/,
  (60, ⟨.int .u64, 1, 8, .int .u64 0⟩) /- uint -/,
  (64, ⟨.ptr 5, 1, 8, .null⟩) /- *uint8 -/,
  (66, ⟨.slice 68, 1, 24, .nil⟩) /- []strings.span -/,
  (67, ⟨.struct [(0, 1, 3), (1, 1, 3)], 2, 16, .agg [.int .i64 0, .int .i64 0]⟩) /- struct { start int; end int } -/,
  (68, ⟨.struct [(0, 1, 3), (1, 1, 3)], 2, 16, .agg [.int .i64 0, .int .i64 0]⟩) /- strings.span -/,
  (78, ⟨.int .u32, 1, 4, .int .u32 0⟩) /- uint32 -/,
  (84, ⟨.struct [(0, 1, 12), (1, 1, 12), (2, 1, 78), (3, 1, 79), (4, 1, 5), (5, 1, 5), (6, 1, 80), (7, 1, 81), (8, 1, 64), (9, 1, 82), (10, 1, 83)], 11, 48, .agg [.int .u64 0, .int .u64 0, .int .u32 0, .int .u8 0, .int .u8 0, .int .u8 0, .int .u8 0, .nilfn, .null, .int .i32 0, .int .i32 0]⟩) /- struct { Size_ uintptr; PtrBytes uintptr; Hash uint32; TFlag -/]
theorem hΓ : TyOK Try.prog Γ := tyOK (by decide)
theorem hm : Try.prog.follows .mixedOrders = true := by decide
def ord20 : Ords := [(6, .ph [0, 1, 2, 4, 5, 6, 3, 7] (.st 8 (.fin)))]
def ord39 : Ords := [(1, .ph [0, 1, 2, 5, 6, 7] (.alt 3 (.alt 4 (.st 8 (.st 9 (.st 10 (.st 11 (.fin))))) 8 (.ph [9] (.st 4 (.st 10 (.st 11 (.fin)))))) 8 (.ph [9] (.st 3 (.st 4 (.st 10 (.st 11 (.fin))))))))]
def ord40 : Ords := [(2, .ph [0, 1, 2, 4, 5, 6, 3, 7, 8] (.st 9 (.fin))), (3, .ph [0, 1, 2, 4, 5, 6, 3, 7] (.st 8 (.st 9 (.st 10 (.st 11 (.fin)))))), (6, .ph [0, 1, 2, 4, 5, 6, 3, 7, 8] (.st 9 (.st 10 (.fin))))]
def ord47 : Ords := [(3, .ph [0, 1, 2, 5, 6, 7, 11, 3, 4, 8, 9] (.st 10 (.st 12 (.fin))))]
def ord49 : Ords := [(0, .ph [0, 1, 2, 6, 9, 10, 11] (.alt 3 (.ph [4, 5, 7] (.alt 8 (.st 12 (.st 13 (.st 14 (.st 15 (.fin))))) 12 (.ph [13] (.st 8 (.st 14 (.st 15 (.fin))))))) 12 (.ph [13] (.st 3 (.st 4 (.st 5 (.st 7 (.st 8 (.st 14 (.st 15 (.fin)))))))))))]
theorem bytes_2 : (Γ.get 2).bytes = 8 := rfl
theorem bytes_3 : (Γ.get 3).bytes = 8 := rfl
theorem bytes_4 : (Γ.get 4).bytes = 1 := rfl
theorem bytes_5 : (Γ.get 5).bytes = 1 := rfl
theorem bytes_9 : (Γ.get 9).bytes = 16 := rfl
theorem bytes_12 : (Γ.get 12).bytes = 8 := rfl
theorem bytes_21 : (Γ.get 21).bytes = 4 := rfl
theorem bytes_22 : (Γ.get 22).bytes = 24 := rfl
theorem bytes_25 : (Γ.get 25).bytes = 8 := rfl
theorem bytes_27 : (Γ.get 27).bytes = 8 := rfl
theorem bytes_32 : (Γ.get 32).bytes = 24 := rfl
theorem bytes_37 : (Γ.get 37).bytes = 24 := rfl
theorem bytes_42 : (Γ.get 42).bytes = 8 := rfl
theorem bytes_43 : (Γ.get 43).bytes = 40 := rfl
theorem bytes_44 : (Γ.get 44).bytes = 40 := rfl
theorem bytes_49 : (Γ.get 49).bytes = 1024 := rfl
theorem bytes_51 : (Γ.get 51).bytes = 8 := rfl
theorem bytes_52 : (Γ.get 52).bytes = 32 := rfl
theorem bytes_53 : (Γ.get 53).bytes = 32 := rfl
theorem bytes_60 : (Γ.get 60).bytes = 8 := rfl
theorem bytes_64 : (Γ.get 64).bytes = 8 := rfl
theorem bytes_66 : (Γ.get 66).bytes = 24 := rfl
theorem bytes_67 : (Γ.get 67).bytes = 16 := rfl
theorem bytes_68 : (Γ.get 68).bytes = 16 := rfl
theorem bytes_78 : (Γ.get 78).bytes = 4 := rfl
theorem bytes_84 : (Γ.get 84).bytes = 48 := rfl
end Kx
