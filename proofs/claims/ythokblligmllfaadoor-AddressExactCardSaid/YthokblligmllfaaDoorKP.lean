/-
  The types and the orders of the regions of this program, as the walk reads them.
  No condition beyond those written in each theorem.
-/
import Derived.Test.YthokblligmllfaaDoorFC
import Derived.Test.YthokblligmllfaaDoorProg
open Go Sx Go.Proofs
namespace Kx
def Γ : Ty := [
  (2, ⟨.int .i64, 1, 8, .int .i64 0⟩) /- int64 -/,
  (3, ⟨.int .i64, 1, 8, .int .i64 0⟩) /- int -/,
  (4, ⟨.bool, 1, 1, .lit false⟩) /- bool -/,
  (5, ⟨.int .u8, 1, 1, .int .u8 0⟩) /- uint8 -/,
  (9, ⟨.str, 1, 16, .str []⟩) /- string -/,
  (12, ⟨.int .u64, 1, 8, .int .u64 0⟩) /- uintptr -/,
  (21, ⟨.int .i32, 1, 4, .int .i32 0⟩) /- int32 -/,
  (22, ⟨.slice 3, 1, 24, .nil⟩) /- []int -/,
  (25, ⟨.ptr 53, 1, 8, .null⟩) /- *recordlinkmake.Deck -/,
  (27, ⟨.slice 9, 1, 24, .nil⟩) /- []string -/,
  (28, ⟨.slice 50, 1, 24, .nil⟩) /- []api.Pair -/,
  (29, ⟨.struct [(0, 1, 27), (1, 1, 28), (2, 1, 28)], 3, 72, .agg [.nil, .nil, .nil]⟩) /- struct { Titles []string; Nicknames []api.Pair; Streets []ap -/,
  (30, ⟨.struct [(0, 1, 27), (1, 1, 28), (2, 1, 28)], 3, 72, .agg [.nil, .nil, .nil]⟩) /- api.Rules -/,
  (34, ⟨.int .i64, 1, 8, .int .i64 0⟩) /- api.Errno -/,
  (45, ⟨.slice 30, 1, 24, .nil⟩) /- []api.Rules -/,
  (49, ⟨.struct [(0, 1, 9), (1, 1, 9)], 2, 32, .agg [.str [], .str []]⟩) /- struct { From string; To string } -/,
  (50, ⟨.struct [(0, 1, 9), (1, 1, 9)], 2, 32, .agg [.str [], .str []]⟩) /- api.Pair -/,
  (51, ⟨.int .u64, 1, 8, .int .u64 0⟩) /- uint64 -/,
  (52, ⟨.struct [(0, 1, 22), (1, 1, 3), (2, 1, 51)], 3, 40, .agg [.nil, .int .i64 0, .int .u64 0]⟩) /- struct { list []int; at int; state uint64 } -/,
  (53, ⟨.struct [(0, 1, 22), (1, 1, 3), (2, 1, 51)], 3, 40, .agg [.nil, .int .i64 0, .int .u64 0]⟩) /- recordlinkmake.Deck -/,
  (54, ⟨.slice 5, 1, 24, .nil⟩) /- []uint8 -/,
  (64, ⟨.int .u64, 1, 8, .int .u64 0⟩) /- uint -/,
  (67, ⟨.struct [(0, 1, 3), (1, 1, 3), (2, 1, 3)], 3, 24, .agg [.int .i64 0, .int .i64 0, .int .i64 0]⟩) /- struct { Year int; Month int; Day int } -/,
  (68, ⟨.struct [(0, 1, 3), (1, 1, 3), (2, 1, 3)], 3, 24, .agg [.int .i64 0, .int .i64 0, .int .i64 0]⟩) /- api.Date -/,
  (73, ⟨.arr 64 9, 64, 1024, .vec 64 fun _ => .str []⟩) /- [64]string -/,
  (75, ⟨.ptr 77, 1, 8, .null⟩) /- *strings.Builder -/,
  (76, ⟨.struct [(0, 1, 75), (1, 1, 54)], 2, 32, .agg [.null, .nil]⟩) /- struct { addr *strings.Builder; buf []uint8 } -/,
  (77, ⟨.struct [(0, 1, 75), (1, 1, 54)], 2, 32, .agg [.null, .nil]⟩) /- strings.Builder -/,
  (92, ⟨.ptr 5, 1, 8, .null⟩) /- *uint8 -/,
  (93, ⟨.slice 95, 1, 24, .nil⟩) /- []strings.span -/,
  (94, ⟨.struct [(0, 1, 3), (1, 1, 3)], 2, 16, .agg [.int .i64 0, .int .i64 0]⟩) /- struct { start int; end int } -/,
  (95, ⟨.struct [(0, 1, 3), (1, 1, 3)], 2, 16, .agg [.int .i64 0, .int .i64 0]⟩) /- strings.span -/,
  (98, ⟨.arr 256 4, 256, 256, .any⟩) /- strings.asciiSet -/,
  (102, ⟨.ptr 98, 1, 8, .null⟩) /- *strings.asciiSet -/,
  (112, ⟨.struct [(0, 1, 5), (1, 1, 5)], 2, 2, .agg [.int .u8 0, .int .u8 0]⟩) /- struct { lo uint8; hi uint8 } -/,
  (123, ⟨.int .u32, 1, 4, .int .u32 0⟩) /- uint32 -/,
  (129, ⟨.struct [(0, 1, 12), (1, 1, 12), (2, 1, 123), (3, 1, 124), (4, 1, 5), (5, 1, 5), (6, 1, 125), (7, 1, 126), (8, 1, 92), (9, 1, 127), (10, 1, 128)], 11, 48, .agg [.int .u64 0, .int .u64 0, .int .u32 0, .int .u8 0, .int .u8 0, .int .u8 0, .int .u8 0, .nilfn, .null, .int .i32 0, .int .i32 0]⟩) /- struct { Size_ uintptr; PtrBytes uintptr; Hash uint32; TFlag -/]
theorem hΓ : TyOK Tryd.prog Γ := tyOK (by decide +kernel)
theorem hm : Tryd.prog.follows .mixedOrders = true := by decide +kernel
def ord3 : Ords := [(10, .ph [0, 2, 5, 7, 1] (.alt 3 (.ph [4] (.st 6 (.st 8 (.st 9 (.st 10 (.fin)))))) 6 (.st 3 (.ph [4] (.st 8 (.st 9 (.st 10 (.fin))))))))]
def ord6 : Ords := [(7, .ph [1, 3, 7] (.alt 0 (.st 2 (.st 4 (.st 5 (.st 6 (.fin))))) 2 (.alt 0 (.st 4 (.st 5 (.st 6 (.fin)))) 4 (.st 0 (.st 5 (.st 6 (.fin))))))), (12, .ph [0] (.st 1 (.st 2 (.st 3 (.ph [4] (.st 5 (.st 6 (.st 7 (.st 8 (.ph [10, 13, 9] (.alt 11 (.st 12 (.st 14 (.st 15 (.st 16 (.st 17 (.ph [19, 22, 18] (.alt 20 (.st 21 (.st 23 (.st 24 (.st 25 (.fin))))) 21 (.st 20 (.st 23 (.st 24 (.st 25 (.fin)))))))))))) 12 (.st 11 (.st 14 (.st 15 (.st 16 (.st 17 (.ph [19, 22, 18] (.alt 20 (.st 21 (.st 23 (.st 24 (.st 25 (.fin))))) 21 (.st 20 (.st 23 (.st 24 (.st 25 (.fin)))))))))))))))))))))))]
def ord7 : Ords := [(5, .ph [1] (.alt 0 (.st 2 (.st 3 (.st 4 (.ph [5, 6] (.st 7 (.st 8 (.fin))))))) 2 (.st 0 (.st 3 (.st 4 (.ph [5, 6] (.st 7 (.st 8 (.fin)))))))))]
def ord25 : Ords := [(13, .ph [0, 3, 4, 5, 6, 7, 8, 9, 10] (.alt 1 (.alt 2 (.st 11 (.st 12 (.st 13 (.st 14 (.st 15 (.st 16 (.st 17 (.fin)))))))) 11 (.alt 2 (.st 12 (.st 13 (.st 14 (.st 15 (.st 16 (.st 17 (.fin))))))) 12 (.ph [13] (.alt 2 (.st 14 (.st 15 (.st 16 (.st 17 (.fin))))) 14 (.st 2 (.st 15 (.st 16 (.st 17 (.fin))))))))) 11 (.alt 1 (.alt 2 (.st 12 (.st 13 (.st 14 (.st 15 (.st 16 (.st 17 (.fin))))))) 12 (.ph [13] (.alt 2 (.st 14 (.st 15 (.st 16 (.st 17 (.fin))))) 14 (.st 2 (.st 15 (.st 16 (.st 17 (.fin)))))))) 12 (.ph [13] (.alt 1 (.alt 2 (.st 14 (.st 15 (.st 16 (.st 17 (.fin))))) 14 (.st 2 (.st 15 (.st 16 (.st 17 (.fin)))))) 14 (.st 1 (.st 2 (.st 15 (.st 16 (.st 17 (.fin)))))))))))]
def ord26 : Ords := [(11, .ph [0, 1, 2, 4, 5, 6, 3] (.st 7 (.st 8 (.st 9 (.st 10 (.fin))))))]
def ord45 : Ords := [(2, .ph [0, 1, 2, 4, 5, 6, 3, 7, 8] (.st 9 (.fin))), (3, .ph [0, 1, 2, 4, 5, 6, 3] (.st 7 (.st 8 (.st 9 (.st 10 (.st 11 (.fin))))))), (6, .ph [0, 1, 2, 4, 5, 6, 3, 7, 8] (.st 9 (.st 10 (.fin))))]
-- def ord47 : Ords := [(1, BAD at [1, 2, 5, 6, 10, 13] ready [3])]
def ord49 : Ords := [(13, .ph [0, 2, 4, 1, 3, 5, 6] (.st 7 (.st 8 (.fin))))]
def ord56 : Ords := [(4, .st 0 (.st 1 (.st 2 (.st 3 (.st 4 (.st 5 (.st 6 (.st 7 (.st 8 (.st 9 (.st 10 (.st 11 (.st 12 (.st 13 (.ph [14, 15, 16, 17, 18, 20, 19] (.st 21 (.st 22 (.st 23 (.st 24 (.st 25 (.ph [26] (.st 27 (.st 28 (.st 29 (.st 30 (.st 31 (.fin)))))))))))))))))))))))))))]
def ord65 : Ords := [(1, .ph [0, 1, 2, 5, 6, 7] (.alt 3 (.alt 4 (.st 8 (.st 9 (.st 10 (.st 11 (.fin))))) 8 (.ph [9] (.st 4 (.st 10 (.st 11 (.fin)))))) 8 (.ph [9] (.st 3 (.st 4 (.st 10 (.st 11 (.fin))))))))]
def ord69 : Ords := [(3, .ph [0, 1, 2, 5, 6, 7, 11, 3, 4, 8, 9] (.st 10 (.st 12 (.fin))))]
def ord73 : Ords := [(4, .ph [0, 1, 2, 4, 5, 6, 7, 3] (.st 8 (.st 9 (.fin))))]
def ord89 : Ords := [(0, .ph [0, 1, 2, 6, 9, 10, 11] (.alt 3 (.ph [4, 5, 7] (.alt 8 (.st 12 (.st 13 (.st 14 (.st 15 (.fin))))) 12 (.ph [13] (.st 8 (.st 14 (.st 15 (.fin))))))) 12 (.ph [13] (.st 3 (.st 4 (.st 5 (.st 7 (.st 8 (.st 14 (.st 15 (.fin)))))))))))]
def ord99 : Ords := [(6, .ph [0, 1, 2, 3] (.st 4 (.st 5 (.st 6 (.fin))))), (7, .ph [0, 1, 2, 3, 4] (.st 5 (.st 6 (.st 7 (.st 8 (.fin)))))), (14, .ph [0, 1, 2, 3, 4, 5, 6] (.st 7 (.st 8 (.st 9 (.st 10 (.fin)))))), (31, .ph [0, 1, 2, 3, 4, 5, 6] (.st 7 (.st 8 (.st 9 (.st 10 (.fin))))))]
theorem bytes_2 : (Γ.get 2).bytes = 8 := rfl
theorem bytes_3 : (Γ.get 3).bytes = 8 := rfl
theorem bytes_4 : (Γ.get 4).bytes = 1 := rfl
theorem bytes_5 : (Γ.get 5).bytes = 1 := rfl
theorem bytes_9 : (Γ.get 9).bytes = 16 := rfl
theorem bytes_12 : (Γ.get 12).bytes = 8 := rfl
theorem bytes_21 : (Γ.get 21).bytes = 4 := rfl
theorem bytes_22 : (Γ.get 22).bytes = 24 := rfl
theorem bytes_25 : (Γ.get 25).bytes = 8 := rfl
theorem bytes_27 : (Γ.get 27).bytes = 24 := rfl
theorem bytes_28 : (Γ.get 28).bytes = 24 := rfl
theorem bytes_29 : (Γ.get 29).bytes = 72 := rfl
theorem bytes_30 : (Γ.get 30).bytes = 72 := rfl
theorem bytes_34 : (Γ.get 34).bytes = 8 := rfl
theorem bytes_45 : (Γ.get 45).bytes = 24 := rfl
theorem bytes_49 : (Γ.get 49).bytes = 32 := rfl
theorem bytes_50 : (Γ.get 50).bytes = 32 := rfl
theorem bytes_51 : (Γ.get 51).bytes = 8 := rfl
theorem bytes_52 : (Γ.get 52).bytes = 40 := rfl
theorem bytes_53 : (Γ.get 53).bytes = 40 := rfl
theorem bytes_54 : (Γ.get 54).bytes = 24 := rfl
theorem bytes_64 : (Γ.get 64).bytes = 8 := rfl
theorem bytes_67 : (Γ.get 67).bytes = 24 := rfl
theorem bytes_68 : (Γ.get 68).bytes = 24 := rfl
theorem bytes_73 : (Γ.get 73).bytes = 1024 := rfl
theorem bytes_75 : (Γ.get 75).bytes = 8 := rfl
theorem bytes_76 : (Γ.get 76).bytes = 32 := rfl
theorem bytes_77 : (Γ.get 77).bytes = 32 := rfl
theorem bytes_92 : (Γ.get 92).bytes = 8 := rfl
theorem bytes_93 : (Γ.get 93).bytes = 24 := rfl
theorem bytes_94 : (Γ.get 94).bytes = 16 := rfl
theorem bytes_95 : (Γ.get 95).bytes = 16 := rfl
theorem bytes_98 : (Γ.get 98).bytes = 256 := rfl
theorem bytes_102 : (Γ.get 102).bytes = 8 := rfl
theorem bytes_112 : (Γ.get 112).bytes = 2 := rfl
theorem bytes_123 : (Γ.get 123).bytes = 4 := rfl
theorem bytes_129 : (Γ.get 129).bytes = 48 := rfl
end Kx
