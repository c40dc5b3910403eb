/-
  The types and the orders of the regions of this program, as the walk reads them.
  No condition beyond those written in each theorem.
-/
import Derived.Test.YtkmdpliokmfboaaFC
import Derived.Test.YtkmdpliokmfboaaProg
open Go Sx Go.Proofs
namespace Kx
def Γ : Ty := [
  (2, ⟨.int .i64, 1, 8, .int .i64 0⟩) /- int64 -/,
  (3, ⟨.int .i64, 1, 8, .int .i64 0⟩) /- int -/,
  (4, ⟨.bool, 1, 1, .lit false⟩) /- bool -/,
  (5, ⟨.int .u8, 1, 1, .int .u8 0⟩) /- uint8 -/,
  (9, ⟨.str, 1, 16, .str []⟩) /- string -/,
  (12, ⟨.int .u64, 1, 8, .int .u64 0⟩) /- uintptr -/,
  (21, ⟨.int .i32, 1, 4, .int .i32 0⟩) /- int32 -/,
  (22, ⟨.slice 3, 1, 24, .nil⟩) /- []int -/,
  (25, ⟨.ptr 49, 1, 8, .null⟩) /- *recordlinkmake.Deck -/,
  (29, ⟨.slice 46, 1, 24, .nil⟩) /- []api.Change -/,
  (31, ⟨.int .i64, 1, 8, .int .i64 0⟩) /- api.Errno -/,
  (40, ⟨.arr 2 9, 2, 32, .agg [.str [], .str []]⟩) /- [2]string -/,
  (41, ⟨.slice 40, 1, 24, .nil⟩) /- [][2]string -/,
  (43, ⟨.slice 29, 1, 24, .nil⟩) /- [][]api.Change -/,
  (45, ⟨.struct [(0, 1, 3), (1, 1, 3), (2, 1, 3)], 3, 24, .agg [.int .i64 0, .int .i64 0, .int .i64 0]⟩) /- struct { Kind int; At int; Byte int } -/,
  (46, ⟨.struct [(0, 1, 3), (1, 1, 3), (2, 1, 3)], 3, 24, .agg [.int .i64 0, .int .i64 0, .int .i64 0]⟩) /- api.Change -/,
  (47, ⟨.int .u64, 1, 8, .int .u64 0⟩) /- uint64 -/,
  (48, ⟨.struct [(0, 1, 22), (1, 1, 3), (2, 1, 47)], 3, 40, .agg [.nil, .int .i64 0, .int .u64 0]⟩) /- struct { list []int; at int; state uint64 } -/,
  (49, ⟨.struct [(0, 1, 22), (1, 1, 3), (2, 1, 47)], 3, 40, .agg [.nil, .int .i64 0, .int .u64 0]⟩) /- recordlinkmake.Deck -/,
  (52, ⟨.slice 5, 1, 24, .nil⟩) /- []uint8 -/,
  (53, ⟨.slice 9, 1, 24, .nil⟩) /- []string -/,
  (60, ⟨.arr 65 3, 65, 520, .vec 65 fun _ => .int .i64 0⟩) /- [65]int -/,
  (63, ⟨.slice 22, 1, 24, .nil⟩) /- [][]int -/,
  (67, ⟨.int .u64, 1, 8, .int .u64 0⟩) /- uint -/,
  (75, ⟨.int .u32, 1, 4, .int .u32 0⟩) /- uint32 -/,
  (79, ⟨.ptr 5, 1, 8, .null⟩) /- *uint8 -/]
theorem hΓ : TyOK Try.prog Γ := tyOK (by decide +kernel)
theorem hm : Try.prog.follows .mixedOrders = true := by decide +kernel
def ord6 : Ords := [(22, .ph [0] (.ph [1] (.ph [2] (.ph [3, 4] (.ph [5] (.ph [6] (.ph [7] (.ph [8, 9, 11, 13, 15, 17, 19, 10, 12, 16, 18] (.qc 14 (.qc 20 (.ph [21] (.ph [22] (.fin)))))))))))))]
def ord14 : Ords := [(13, .ph [0, 2, 1] (.ph [3] (.qc 4 (.ph [5] (.ph [6] (.fin)))))), (19, .ph [0, 2, 7, 1, 3, 4, 5, 6] (.ph [8] (.ph [9] (.st 10 (.st 11 (.ph [12] (.fin)))))))]
def ord15 : Ords := [(13, .ph [0, 2] (.alt 1 (.st 3 (.st 4 (.st 5 (.fin)))) 3 (.ph [1] (.st 4 (.st 5 (.fin)))))), (18, .ph [0, 1, 2, 3, 5, 6, 7, 8, 11, 12, 15, 16, 17, 4, 13, 14, 18, 19] (.qc 9 (.ph [10] (.ph [20] (.ph [21] (.st 22 (.fin))))))), (20, .ph [0, 1, 2, 4, 5, 6, 3] (.ph [7] (.ph [8] (.ph [9] (.ph [10] (.st 11 (.fin)))))))]
def ord18 : Ords := [(11, .ph [0] (.ph [1, 2, 3, 4, 5, 6] (.ph [7] (.ph [8] (.ph [9] (.ph [10] (.ph [11] (.ph [12, 13, 14, 15, 17, 20, 21, 22, 23, 25, 26, 16, 18, 19] (.ph [24] (.ph [27] (.ph [28] (.ph [29] (.ph [30] (.ph [31] (.fin))))))))))))))), (13, .ph [0] (.ph [1, 2, 3, 4, 6, 9, 10, 11, 12, 14, 15, 5, 7, 8] (.ph [13] (.ph [16] (.ph [17] (.ph [18] (.ph [19] (.ph [20] (.ph [21] (.fin)))))))))), (16, .ph [0] (.ph [1] (.ph [2, 3, 4, 5, 7, 10, 11, 12, 13, 15, 6, 8, 9] (.ph [14] (.ph [16] (.ph [17] (.ph [18] (.ph [19] (.ph [20] (.ph [21] (.fin))))))))))), (19, .ph [0] (.ph [1] (.ph [2, 3, 4, 5, 7, 10, 11, 12, 14, 15, 6, 8, 9] (.ph [13] (.ph [16] (.ph [17] (.ph [18] (.ph [19] (.ph [20] (.ph [21] (.fin)))))))))))]
def ord20 : Ords := [(10, .ph [0] (.ph [1] (.ph [2] (.ph [3] (.ph [4] (.ph [5] (.ph [6, 7, 8, 9, 10, 11] (.ph [12] (.ph [13] (.ph [14] (.ph [15] (.ph [16] (.ph [17, 18, 19, 20, 22, 25, 26, 27, 28, 30, 31, 21, 23, 24] (.ph [29] (.ph [32] (.ph [33] (.ph [34] (.ph [35] (.ph [36] (.fin)))))))))))))))))))), (12, .ph [0] (.ph [1] (.ph [2] (.ph [3] (.ph [4] (.ph [5] (.ph [6, 7, 8, 9, 11, 14, 15, 16, 17, 19, 20, 10, 12, 13] (.ph [18] (.ph [21] (.ph [22] (.ph [23] (.ph [24] (.ph [25] (.ph [26] (.fin))))))))))))))), (15, .ph [0] (.ph [1] (.ph [2, 3, 4, 5, 7, 10, 11, 12, 13, 15, 6, 8, 9] (.ph [14] (.ph [16] (.ph [17] (.ph [18] (.ph [19] (.ph [20] (.ph [21] (.fin))))))))))), (18, .ph [0] (.ph [1] (.ph [2, 3, 4, 5, 7, 10, 11, 12, 14, 15, 6, 8, 9] (.ph [13] (.ph [16] (.ph [17] (.ph [18] (.ph [19] (.ph [20] (.ph [21] (.fin)))))))))))]
def ord23 : Ords := [(6, .ph [0, 1, 2, 4, 5, 6, 3] (.ph [7] (.ph [8] (.fin))))]
def ord24 : Ords := [(26, .ph [0, 1, 2, 3, 4, 5] (.ph [6] (.ph [7] (.st 8 (.st 9 (.ph [10] (.ph [11] (.fin))))))))]
def ord30 : Ords := [(4, .ph [0, 1, 2, 3, 5, 6, 7, 8, 9, 4] (.ph [10] (.ph [11] (.ph [12, 13, 14, 15, 16, 19, 20, 21, 22, 23, 27, 28, 29, 30, 31, 17, 18, 24, 25, 26] (.ph [32] (.qc 33 (.ph [34] (.ph [35] (.ph [36] (.fin))))))))))]
def ord33 : Ords := [(11, .ph [0] (.ph [1] (.ph [2] (.ph [3, 4, 6, 7, 5] (.ph [8] (.qc 9 (.ph [10] (.ph [11] (.ph [12] (.ph [13] (.fin)))))))))))]
def ord36 : Ords := [(1, .ph [0, 1, 2, 3, 4] (.ph [5] (.ph [6] (.ph [7] (.ph [8] (.fin))))))]
def ord37 : Ords := [(1, .ph [0] (.ph [1] (.ph [2] (.ph [3] (.ph [4] (.ph [5] (.ph [6, 7, 8, 9, 10, 11] (.ph [12] (.ph [13] (.ph [14] (.ph [15] (.ph [16] (.ph [17, 18, 19, 20, 21, 22] (.ph [23] (.ph [24] (.ph [25] (.ph [26] (.ph [27] (.ph [28] (.fin))))))))))))))))))))]
def ord38 : Ords := [(13, .ph [0, 1, 2, 4, 5, 6, 7, 8, 10, 11, 14, 15, 16, 17, 20, 21, 22, 23, 25, 29, 30, 31, 33, 34, 38, 39, 40, 41, 43, 44, 3, 9, 12, 13, 24, 26, 27, 28, 32, 35, 36, 37, 42, 45, 46, 47] (.qc 18 (.ph [19] (.ph [48] (.ph [49] (.st 50 (.fin))))))), (9, .ph [0, 1, 2, 4, 5, 6, 7, 8, 10, 11, 14, 15, 16, 17, 20, 21, 22, 23, 25, 29, 30, 31, 33, 34, 3, 9, 12, 13, 24, 26, 27, 28, 32, 35, 36, 37] (.qc 18 (.ph [19] (.ph [38] (.ph [39] (.st 40 (.fin)))))))]
def ord39 : Ords := [(3, .ph [0, 1, 2, 3, 4, 5, 6, 8, 9, 10, 7] (.ph [11] (.ph [12] (.st 13 (.ph [14] (.st 15 (.fin)))))))]
def ord40 : Ords := [(12, .ph [0, 1, 2, 3, 4] (.ph [5] (.ph [6] (.ph [7] (.ph [8] (.fin)))))), (14, .ph [0, 1, 2, 3, 4, 6, 10, 11, 12, 14, 15, 5, 7, 8, 9] (.ph [13] (.ph [16] (.ph [17] (.ph [18] (.ph [19] (.ph [20] (.fin)))))))), (15, .ph [0] (.ph [1] (.ph [2] (.ph [3] (.ph [4] (.ph [5] (.ph [6, 7, 8, 9, 10, 11] (.ph [12] (.ph [13] (.ph [14] (.ph [15] (.ph [16] (.ph [17, 18, 19, 20, 21, 22] (.ph [23] (.ph [24] (.ph [25] (.ph [26] (.ph [27] (.fin)))))))))))))))))))]
def ord41 : Ords := [(4, .ph [0, 1, 2, 3, 5, 6, 7] (.way 4 (.way 8 (.alt 9 (.st 10 (.st 11 (.st 12 (.fin)))) 10 (.st 9 (.st 11 (.st 12 (.fin))))) (.way 9 (.alt 8 (.st 10 (.st 11 (.st 12 (.fin)))) 10 (.alt 8 (.st 11 (.st 12 (.fin))) 11 (.ph [8] (.st 12 (.fin))))) (.way 10 (.alt 8 (.st 9 (.st 11 (.st 12 (.fin)))) 9 (.alt 8 (.st 11 (.st 12 (.fin))) 11 (.ph [8] (.st 12 (.fin))))) (.non)))) (.way 8 (.ph [4] (.alt 9 (.st 10 (.st 11 (.st 12 (.fin)))) 10 (.st 9 (.st 11 (.st 12 (.fin)))))) (.way 9 (.way 4 (.alt 8 (.st 10 (.st 11 (.st 12 (.fin)))) 10 (.alt 8 (.st 11 (.st 12 (.fin))) 11 (.ph [8] (.st 12 (.fin))))) (.way 8 (.ph [4] (.st 10 (.st 11 (.st 12 (.fin))))) (.way 10 (.ph [4] (.alt 8 (.st 11 (.st 12 (.fin))) 11 (.ph [8] (.st 12 (.fin))))) (.non)))) (.way 10 (.way 4 (.alt 8 (.st 9 (.st 11 (.st 12 (.fin)))) 9 (.alt 8 (.st 11 (.st 12 (.fin))) 11 (.ph [8] (.st 12 (.fin))))) (.way 8 (.ph [4] (.st 9 (.st 11 (.st 12 (.fin))))) (.way 9 (.ph [4] (.alt 8 (.st 11 (.st 12 (.fin))) 11 (.ph [8] (.st 12 (.fin))))) (.non)))) (.non))))))]
def ord43 : Ords := [(2, .ph [0, 1, 2, 4, 5, 6, 3] (.ph [7] (.ph [8] (.ph [9] (.fin))))), (3, .ph [0, 1, 2, 4, 5, 6, 3] (.ph [7] (.ph [8] (.ph [9] (.ph [10] (.ph [11] (.fin))))))), (6, .ph [0, 1, 2, 4, 5, 6, 3] (.ph [7] (.ph [8] (.ph [9] (.ph [10] (.fin))))))]
theorem bytes_2 : (Γ.get 2).bytes = 8 := rfl
theorem bytes_3 : (Γ.get 3).bytes = 8 := rfl
theorem bytes_4 : (Γ.get 4).bytes = 1 := rfl
theorem bytes_5 : (Γ.get 5).bytes = 1 := rfl
theorem bytes_9 : (Γ.get 9).bytes = 16 := rfl
theorem bytes_12 : (Γ.get 12).bytes = 8 := rfl
theorem bytes_21 : (Γ.get 21).bytes = 4 := rfl
theorem bytes_22 : (Γ.get 22).bytes = 24 := rfl
theorem bytes_25 : (Γ.get 25).bytes = 8 := rfl
theorem bytes_29 : (Γ.get 29).bytes = 24 := rfl
theorem bytes_31 : (Γ.get 31).bytes = 8 := rfl
theorem bytes_40 : (Γ.get 40).bytes = 32 := rfl
theorem bytes_41 : (Γ.get 41).bytes = 24 := rfl
theorem bytes_43 : (Γ.get 43).bytes = 24 := rfl
theorem bytes_45 : (Γ.get 45).bytes = 24 := rfl
theorem bytes_46 : (Γ.get 46).bytes = 24 := rfl
theorem bytes_47 : (Γ.get 47).bytes = 8 := rfl
theorem bytes_48 : (Γ.get 48).bytes = 40 := rfl
theorem bytes_49 : (Γ.get 49).bytes = 40 := rfl
theorem bytes_52 : (Γ.get 52).bytes = 24 := rfl
theorem bytes_53 : (Γ.get 53).bytes = 24 := rfl
theorem bytes_60 : (Γ.get 60).bytes = 520 := rfl
theorem bytes_63 : (Γ.get 63).bytes = 24 := rfl
theorem bytes_67 : (Γ.get 67).bytes = 8 := rfl
theorem bytes_75 : (Γ.get 75).bytes = 4 := rfl
theorem bytes_79 : (Γ.get 79).bytes = 8 := rfl
end Kx
