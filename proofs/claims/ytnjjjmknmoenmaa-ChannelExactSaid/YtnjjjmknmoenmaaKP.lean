/-
  The types and the orders of the regions of this program, as the walk reads them.
  No condition beyond those written in each theorem.
-/
import Derived.Test.YtnjjjmknmoenmaaFC
import Derived.Test.YtnjjjmknmoenmaaProg
open Go Sx Go.Proofs
namespace Kx
def Γ : Ty := [
  (2, ⟨.int .i64, 1, 8, .int .i64 0⟩) /- int64 -/,
  (3, ⟨.int .i64, 1, 8, .int .i64 0⟩) /- int -/,
  (4, ⟨.bool, 1, 1, .lit false⟩) /- bool -/,
  (5, ⟨.int .u8, 1, 1, .int .u8 0⟩) /- uint8 -/,
  (9, ⟨.str, 1, 16, .str []⟩) /- string -/,
  (12, ⟨.int .u64, 1, 8, .int .u64 0⟩) /- uintptr -/,
  (21, ⟨.int .i32, 1, 4, .int .i32 0⟩) /- int32 -/,
  (22, ⟨.slice 3, 1, 24, .nil⟩) /- []int -/,
  (25, ⟨.ptr 59, 1, 8, .null⟩) /- *recordlinkmake.Deck -/,
  (27, ⟨.slice 9, 1, 24, .nil⟩) /- []string -/,
  (28, ⟨.slice 43, 1, 24, .nil⟩) /- []api.Packet -/,
  (29, ⟨.struct [(0, 1, 3), (1, 1, 3), (2, 1, 27), (3, 1, 28), (4, 1, 28), (5, 1, 22)], 6, 112, .agg [.int .i64 0, .int .i64 0, .nil, .nil, .nil, .nil]⟩) /- struct { Base int; Expected int; Waiting []string; There []a -/,
  (30, ⟨.struct [(0, 1, 3), (1, 1, 3), (2, 1, 27), (3, 1, 28), (4, 1, 28), (5, 1, 22)], 6, 112, .agg [.int .i64 0, .int .i64 0, .nil, .nil, .nil, .nil]⟩) /- api.Channel -/,
  (33, ⟨.int .i64, 1, 8, .int .i64 0⟩) /- api.Errno -/,
  (42, ⟨.struct [(0, 1, 3), (1, 1, 9)], 2, 24, .agg [.int .i64 0, .str []]⟩) /- struct { Number int; Payload string } -/,
  (43, ⟨.struct [(0, 1, 3), (1, 1, 9)], 2, 24, .agg [.int .i64 0, .str []]⟩) /- api.Packet -/,
  (47, ⟨.slice 30, 1, 24, .nil⟩) /- []api.Channel -/,
  (51, ⟨.slice 52, 1, 24, .nil⟩) /- []uint16 -/,
  (52, ⟨.int .u16, 1, 2, .int .u16 0⟩) /- uint16 -/,
  (53, ⟨.slice 5, 1, 24, .nil⟩) /- []uint8 -/,
  (57, ⟨.int .u64, 1, 8, .int .u64 0⟩) /- uint64 -/,
  (58, ⟨.struct [(0, 1, 22), (1, 1, 3), (2, 1, 57)], 3, 40, .agg [.nil, .int .i64 0, .int .u64 0]⟩) /- struct { list []int; at int; state uint64 } -/,
  (59, ⟨.struct [(0, 1, 22), (1, 1, 3), (2, 1, 57)], 3, 40, .agg [.nil, .int .i64 0, .int .u64 0]⟩) /- recordlinkmake.Deck -/,
  (73, ⟨.int .u64, 1, 8, .int .u64 0⟩) /- uint -/,
  (91, ⟨.slice 28, 1, 24, .nil⟩) /- [][]api.Packet -/,
  (104, ⟨.int .u32, 1, 4, .int .u32 0⟩) /- uint32 -/,
  (108, ⟨.ptr 5, 1, 8, .null⟩) /- *uint8 -/]
theorem hΓ : TyOK Try.prog Γ := tyOK (by decide +kernel)
theorem hm : Try.prog.follows .mixedOrders = true := by decide +kernel
def ord6 : Ords := [(8, .ph [0, 2, 3, 4, 5] (.alt 1 (.st 6 (.st 7 (.ph [8] (.st 9 (.fin))))) 6 (.ph [1] (.st 7 (.ph [8] (.st 9 (.fin))))))), (11, .ph [1, 3, 8] (.way 0 (.alt 2 (.alt 4 (.ph [5] (.st 6 (.ph [7] (.fin)))) 5 (.st 4 (.st 6 (.ph [7] (.fin))))) 5 (.st 2 (.st 4 (.st 6 (.ph [7] (.fin)))))) (.way 2 (.way 0 (.alt 4 (.ph [5] (.st 6 (.ph [7] (.fin)))) 5 (.st 4 (.st 6 (.ph [7] (.fin))))) (.way 4 (.ph [0] (.ph [5] (.st 6 (.ph [7] (.fin))))) (.way 5 (.alt 0 (.st 4 (.st 6 (.ph [7] (.fin)))) 4 (.ph [0] (.st 6 (.ph [7] (.fin))))) (.non)))) (.way 5 (.alt 0 (.st 2 (.st 4 (.st 6 (.ph [7] (.fin))))) 2 (.alt 0 (.st 4 (.st 6 (.ph [7] (.fin)))) 4 (.ph [0] (.st 6 (.ph [7] (.fin)))))) (.non))))), (14, .ph [0, 2] (.qc 1 (.qc 3 (.ph [4] (.ph [5, 6, 8] (.qc 7 (.qc 9 (.ph [10] (.ph [11] (.fin)))))))))), (20, .ph [0, 1, 3, 7, 12] (.way 2 (.ph [4, 5, 6] (.ph [8] (.ph [9] (.st 10 (.ph [11] (.fin)))))) (.way 4 (.ph [5, 6] (.alt 2 (.ph [8] (.ph [9] (.st 10 (.ph [11] (.fin))))) 8 (.ph [9] (.st 2 (.st 10 (.ph [11] (.fin))))))) (.way 8 (.ph [9] (.alt 2 (.ph [4] (.ph [5] (.ph [6] (.st 10 (.ph [11] (.fin)))))) 4 (.ph [5, 6] (.st 2 (.st 10 (.ph [11] (.fin))))))) (.non)))))]
def ord12 : Ords := [(5, .ph [0, 2] (.alt 1 (.st 3 (.st 4 (.ph [5, 6, 7, 8] (.st 9 (.fin))))) 3 (.ph [1] (.st 4 (.ph [5, 6, 7, 8] (.st 9 (.fin)))))))]
def ord14 : Ords := [(10, .ph [0] (.ph [1] (.ph [2] (.ph [3] (.ph [4, 5, 10, 6, 7, 8, 9] (.ph [11] (.ph [12] (.ph [13] (.fin)))))))))]
def ord16 : Ords := [(9, .ph [0, 2, 4, 6, 8, 3, 5, 7, 9, 10, 11] (.alt 1 (.st 12 (.st 13 (.ph [14] (.st 15 (.fin))))) 12 (.ph [1] (.st 13 (.ph [14] (.st 15 (.fin)))))))]
def ord21 : Ords := [(6, .ph [0, 2, 5, 7, 1, 3, 4] (.ph [6] (.ph [8] (.ph [9] (.ph [10] (.fin)))))), (11, .ph [0, 2, 5, 7, 1, 3, 4] (.ph [6] (.ph [8] (.ph [9] (.ph [10] (.fin))))))]
def ord23 : Ords := [(6, .ph [0, 2] (.alt 1 (.st 3 (.ph [4] (.ph [5] (.st 6 (.fin))))) 3 (.ph [1] (.ph [4] (.ph [5] (.st 6 (.fin))))))), (8, .ph [0, 2] (.alt 1 (.st 3 (.st 4 (.st 5 (.ph [6] (.st 7 (.fin)))))) 3 (.alt 1 (.st 4 (.st 5 (.ph [6] (.st 7 (.fin))))) 4 (.ph [1] (.st 5 (.ph [6] (.st 7 (.fin)))))))), (10, .ph [0, 2, 4] (.alt 1 (.st 3 (.st 5 (.ph [6] (.st 7 (.st 8 (.ph [9] (.st 10 (.fin)))))))) 3 (.alt 1 (.st 5 (.ph [6] (.st 7 (.st 8 (.ph [9] (.st 10 (.fin))))))) 5 (.ph [6] (.alt 1 (.st 7 (.st 8 (.ph [9] (.st 10 (.fin))))) 7 (.ph [1] (.st 8 (.ph [9] (.st 10 (.fin)))))))))), (12, .ph [0, 2, 4, 7] (.way 1 (.alt 3 (.st 5 (.ph [6] (.st 8 (.ph [9] (.st 10 (.st 11 (.ph [12] (.st 13 (.fin))))))))) 5 (.alt 3 (.ph [6] (.st 8 (.ph [9] (.st 10 (.st 11 (.ph [12] (.st 13 (.fin)))))))) 8 (.ph [3] (.ph [6] (.ph [9] (.st 10 (.st 11 (.ph [12] (.st 13 (.fin)))))))))) (.way 3 (.alt 1 (.st 5 (.ph [6] (.st 8 (.ph [9] (.st 10 (.st 11 (.ph [12] (.st 13 (.fin))))))))) 5 (.ph [6] (.alt 1 (.st 8 (.ph [9] (.st 10 (.st 11 (.ph [12] (.st 13 (.fin))))))) 8 (.ph [9] (.alt 1 (.st 10 (.st 11 (.ph [12] (.st 13 (.fin))))) 10 (.ph [1] (.st 11 (.ph [12] (.st 13 (.fin)))))))))) (.way 5 (.way 1 (.alt 3 (.ph [6] (.st 8 (.ph [9] (.st 10 (.st 11 (.ph [12] (.st 13 (.fin)))))))) 8 (.ph [3] (.ph [6] (.ph [9] (.st 10 (.st 11 (.ph [12] (.st 13 (.fin))))))))) (.way 3 (.ph [6] (.alt 1 (.st 8 (.ph [9] (.st 10 (.st 11 (.ph [12] (.st 13 (.fin))))))) 8 (.ph [9] (.alt 1 (.st 10 (.st 11 (.ph [12] (.st 13 (.fin))))) 10 (.ph [1] (.st 11 (.ph [12] (.st 13 (.fin))))))))) (.way 8 (.ph [3, 6, 9] (.alt 1 (.st 10 (.st 11 (.ph [12] (.st 13 (.fin))))) 10 (.ph [1] (.st 11 (.ph [12] (.st 13 (.fin))))))) (.non)))) (.non)))))]
def ord24 : Ords := [(27, .ph [0, 2, 1] (.ph [3] (.ph [4] (.ph [5, 6, 8] (.ph [7] (.ph [9] (.ph [10] (.ph [11, 12, 15, 13, 14] (.ph [16] (.qc 17 (.ph [18] (.ph [19] (.ph [20] (.ph [21] (.ph [22] (.ph [23, 24, 26, 27, 31, 25, 28, 29, 30] (.ph [32] (.ph [33] (.ph [34] (.ph [35] (.fin))))))))))))))))))))), (33, .ph [0] (.ph [1] (.ph [2] (.ph [3, 4, 6] (.ph [5] (.ph [7] (.ph [8] (.ph [9, 10, 12, 11] (.ph [13] (.ph [14] (.ph [15, 16, 19, 17, 18] (.ph [20] (.qc 21 (.ph [22] (.ph [23] (.ph [24] (.fin))))))))))))))))), (38, .ph [0, 2] (.ph [1] (.ph [3] (.ph [4] (.ph [5] (.ph [6, 7, 9, 12, 8, 10, 11] (.ph [13] (.ph [14] (.ph [15] (.fin))))))))))]
def ord28 : Ords := [(9, .ph [0, 2, 4, 6, 8, 3, 5, 7, 9, 10, 11] (.alt 1 (.st 12 (.st 13 (.ph [14] (.st 15 (.fin))))) 12 (.ph [1] (.st 13 (.ph [14] (.st 15 (.fin)))))))]
def ord30 : Ords := [(5, .ph [0, 2, 5, 7, 8, 1, 3, 6, 9] (.st 4 (.st 10 (.ph [11] (.st 12 (.fin))))))]
def ord31 : Ords := [(6, .ph [0, 2, 4, 3, 5, 6] (.alt 1 (.st 7 (.st 8 (.ph [9] (.st 10 (.fin))))) 7 (.ph [1] (.st 8 (.ph [9] (.st 10 (.fin)))))))]
def ord32 : Ords := [(7, .ph [0, 2, 4, 3, 5, 6] (.alt 1 (.st 7 (.st 8 (.ph [9] (.st 10 (.fin))))) 7 (.ph [1] (.st 8 (.ph [9] (.st 10 (.fin)))))))]
def ord35 : Ords := [(7, .ph [0, 2, 5, 7, 8, 1, 3, 6, 9] (.st 4 (.st 10 (.ph [11] (.st 12 (.fin))))))]
def ord36 : Ords := [(10, .ph [0] (.ph [1] (.ph [2] (.ph [3] (.ph [4, 5, 10, 6, 7, 8, 9] (.ph [11] (.ph [12] (.ph [13] (.fin))))))))), (16, .ph [0] (.ph [1] (.ph [2] (.ph [3] (.ph [4] (.ph [5, 6, 8, 12, 7, 9, 10, 11] (.ph [13] (.ph [14] (.ph [15] (.fin)))))))))), (18, .ph [0] (.ph [1] (.ph [2] (.ph [3] (.ph [4] (.ph [5, 6, 8, 12, 7, 9, 10, 11] (.ph [13] (.ph [14] (.ph [15] (.fin)))))))))), (19, .ph [0, 2] (.alt 1 (.ph [3, 5] (.alt 4 (.st 6 (.st 7 (.ph [8] (.fin)))) 6 (.st 4 (.st 7 (.ph [8] (.fin)))))) 5 (.alt 1 (.ph [3] (.alt 4 (.st 6 (.st 7 (.ph [8] (.fin)))) 6 (.st 4 (.st 7 (.ph [8] (.fin)))))) 6 (.ph [1] (.ph [3] (.st 4 (.st 7 (.ph [8] (.fin)))))))))]
def ord41 : Ords := [(5, .ph [0, 1, 2, 3] (.ph [4] (.ph [5] (.st 6 (.ph [7] (.fin))))))]
def ord43 : Ords := [(11, .ph [0, 1, 2, 3, 4, 5] (.ph [6] (.ph [7] (.st 8 (.fin))))), (15, .ph [0, 1, 2, 3, 4, 5] (.ph [6] (.ph [7] (.st 8 (.fin)))))]
def ord44 : Ords := [(5, .ph [0, 1, 2, 3] (.ph [4] (.ph [5] (.st 6 (.ph [7] (.fin))))))]
def ord45 : Ords := [(5, .ph [0, 1, 2, 3] (.ph [4] (.ph [5] (.st 6 (.ph [7] (.fin))))))]
def ord46 : Ords := [(1, .ph [0, 3, 6, 9, 1, 4, 7, 10] (.qc 2 (.ph [12] (.qc 5 (.qc 8 (.qc 11 (.st 13 (.ph [14] (.st 15 (.ph [16] (.st 17 (.ph [18] (.st 19 (.fin))))))))))))))]
def ord48 : Ords := [(1, .ph [0, 2, 1] (.ph [3] (.ph [4] (.ph [5] (.ph [6] (.ph [7, 8, 10, 9] (.ph [11] (.ph [12] (.ph [13] (.ph [14, 15, 16] (.ph [17] (.qc 18 (.ph [19] (.ph [20] (.fin))))))))))))))), (6, .ph [0, 2, 1] (.ph [3] (.ph [4] (.ph [5] (.ph [6] (.ph [7] (.ph [8, 9, 11, 12, 16, 10, 13, 14, 15] (.ph [17] (.ph [18] (.ph [19] (.ph [20] (.ph [21, 22] (.ph [23] (.qc 24 (.ph [25] (.ph [26] (.fin)))))))))))))))))]
def ord49 : Ords := [(6, .ph [0, 1, 2, 4, 5, 6, 3] (.ph [7] (.ph [8] (.fin))))]
def ord52 : Ords := [(1, .ph [0, 2, 4, 7, 10, 13, 1, 3, 5, 8, 11, 14] (.st 6 (.st 9 (.st 12 (.st 15 (.ph [16] (.st 17 (.fin))))))))]
def ord53 : Ords := [(2, .ph [0, 1, 2, 4, 5, 6, 3] (.ph [7] (.ph [8] (.ph [9] (.fin))))), (3, .ph [0, 1, 2, 4, 5, 6, 3] (.ph [7] (.ph [8] (.ph [9] (.ph [10] (.ph [11] (.fin))))))), (6, .ph [0, 1, 2, 4, 5, 6, 3] (.ph [7] (.ph [8] (.ph [9] (.ph [10] (.fin))))))]
def ord55 : Ords := [(6, .ph [0, 1, 2, 4, 5, 6, 3] (.ph [7] (.ph [8] (.fin))))]
def ord69 : Ords := [(1, .ph [0, 1] (.ph [2] (.qc 3 (.ph [4] (.ph [5, 6, 8, 7] (.ph [9] (.ph [10] (.ph [11, 12, 14, 16, 21, 13, 15, 17, 18, 19, 20] (.ph [22] (.ph [23] (.ph [24] (.ph [25] (.ph [26] (.fin))))))))))))))]
def ord83 : Ords := [(3, .ph [0, 1, 2, 3, 4, 5, 6, 8, 9, 10, 7] (.ph [11] (.ph [12] (.st 13 (.ph [14] (.st 15 (.fin)))))))]
theorem bytes_2 : (Γ.get 2).bytes = 8 := rfl
theorem bytes_3 : (Γ.get 3).bytes = 8 := rfl
theorem bytes_4 : (Γ.get 4).bytes = 1 := rfl
theorem bytes_5 : (Γ.get 5).bytes = 1 := rfl
theorem bytes_9 : (Γ.get 9).bytes = 16 := rfl
theorem bytes_12 : (Γ.get 12).bytes = 8 := rfl
theorem bytes_21 : (Γ.get 21).bytes = 4 := rfl
theorem bytes_22 : (Γ.get 22).bytes = 24 := rfl
theorem bytes_25 : (Γ.get 25).bytes = 8 := rfl
theorem bytes_27 : (Γ.get 27).bytes = 24 := rfl
theorem bytes_28 : (Γ.get 28).bytes = 24 := rfl
theorem bytes_29 : (Γ.get 29).bytes = 112 := rfl
theorem bytes_30 : (Γ.get 30).bytes = 112 := rfl
theorem bytes_33 : (Γ.get 33).bytes = 8 := rfl
theorem bytes_42 : (Γ.get 42).bytes = 24 := rfl
theorem bytes_43 : (Γ.get 43).bytes = 24 := rfl
theorem bytes_47 : (Γ.get 47).bytes = 24 := rfl
theorem bytes_51 : (Γ.get 51).bytes = 24 := rfl
theorem bytes_52 : (Γ.get 52).bytes = 2 := rfl
theorem bytes_53 : (Γ.get 53).bytes = 24 := rfl
theorem bytes_57 : (Γ.get 57).bytes = 8 := rfl
theorem bytes_58 : (Γ.get 58).bytes = 40 := rfl
theorem bytes_59 : (Γ.get 59).bytes = 40 := rfl
theorem bytes_73 : (Γ.get 73).bytes = 8 := rfl
theorem bytes_91 : (Γ.get 91).bytes = 24 := rfl
theorem bytes_104 : (Γ.get 104).bytes = 4 := rfl
theorem bytes_108 : (Γ.get 108).bytes = 8 := rfl
end Kx
