/-
  The types and the orders of the regions of this program, as the walk reads them.
  No condition beyond those written in each theorem.
-/
import Derived.Test.YtogpmimmlcheaaaFC
import Derived.Test.YtogpmimmlcheaaaProg
open Go Sx Go.Proofs
namespace Kx
def Γ : Ty := [
  (2, ⟨.int .i64, 1, 8, .int .i64 0⟩) /- int64 -/,
  (3, ⟨.int .i64, 1, 8, .int .i64 0⟩) /- int -/,
  (4, ⟨.bool, 1, 1, .lit false⟩) /- bool -/,
  (5, ⟨.int .u8, 1, 1, .int .u8 0⟩) /- uint8 -/,
  (9, ⟨.str, 1, 16, .str []⟩) /- string -/,
  (12, ⟨.int .u64, 1, 8, .int .u64 0⟩) /- uintptr -/,
  (21, ⟨.int .i32, 1, 4, .int .i32 0⟩) /- int32 -/,
  (22, ⟨.slice 3, 1, 24, .nil⟩) /- []int -/,
  (25, ⟨.ptr 45, 1, 8, .null⟩) /- *recordlinkmake.Deck -/,
  (27, ⟨.struct [(0, 1, 3), (1, 1, 3), (2, 1, 22), (3, 1, 22)], 4, 64, .agg [.int .i64 0, .int .i64 0, .nil, .nil]⟩) /- struct { Now int; Next int; Holds []int; Arrays []int } -/,
  (28, ⟨.struct [(0, 1, 3), (1, 1, 3), (2, 1, 22), (3, 1, 22)], 4, 64, .agg [.int .i64 0, .int .i64 0, .nil, .nil]⟩) /- api.Custody -/,
  (31, ⟨.int .i64, 1, 8, .int .i64 0⟩) /- api.Errno -/,
  (41, ⟨.slice 28, 1, 24, .nil⟩) /- []api.Custody -/,
  (43, ⟨.int .u64, 1, 8, .int .u64 0⟩) /- uint64 -/,
  (44, ⟨.struct [(0, 1, 22), (1, 1, 3), (2, 1, 43)], 3, 40, .agg [.nil, .int .i64 0, .int .u64 0]⟩) /- struct { list []int; at int; state uint64 } -/,
  (45, ⟨.struct [(0, 1, 22), (1, 1, 3), (2, 1, 43)], 3, 40, .agg [.nil, .int .i64 0, .int .u64 0]⟩) /- recordlinkmake.Deck -/,
  (49, ⟨.int .u64, 1, 8, .int .u64 0⟩) /- uint -/,
  (51, ⟨.ptr 28, 1, 8, .null⟩) /- *api.Custody -/,
  (62, ⟨.slice 22, 1, 24, .nil⟩) /- [][]int -/,
  (71, ⟨.int .u32, 1, 4, .int .u32 0⟩) /- uint32 -/,
  (75, ⟨.ptr 5, 1, 8, .null⟩) /- *uint8 -/,
  (78, ⟨.struct [(0, 1, 12), (1, 1, 12), (2, 1, 71), (3, 1, 72), (4, 1, 5), (5, 1, 5), (6, 1, 73), (7, 1, 74), (8, 1, 75), (9, 1, 76), (10, 1, 77)], 11, 48, .agg [.int .u64 0, .int .u64 0, .int .u32 0, .int .u8 0, .int .u8 0, .int .u8 0, .int .u8 0, .nilfn, .null, .int .i32 0, .int .i32 0]⟩) /- struct { Size_ uintptr; PtrBytes uintptr; Hash uint32; TFlag -/]
theorem hΓ : TyOK Try.prog Γ := tyOK (by decide)
theorem hm : Try.prog.follows .mixedOrders = true := by decide
def ord4 : Ords := [(11, .ph [0] (.st 1 (.st 2 (.st 3 (.ph [4, 6, 9, 11, 5, 7, 8, 10, 12, 13] (.st 14 (.st 15 (.st 16 (.ph [17, 19] (.st 18 (.st 20 (.st 21 (.st 22 (.st 23 (.st 24 (.fin))))))))))))))))]
def ord5 : Ords := [(29, .ph [0, 2, 5, 7, 1, 3, 4, 6, 8, 9] (.st 10 (.st 11 (.ph [12, 14] (.st 13 (.st 15 (.st 16 (.st 17 (.st 18 (.st 19 (.ph [20, 22] (.st 21 (.st 23 (.st 24 (.st 25 (.st 26 (.fin))))))))))))))))), (31, .ph [0, 2, 1, 3] (.st 4 (.st 5 (.ph [6, 8, 11, 7, 9, 10, 12] (.st 13 (.st 14 (.ph [15, 17, 20, 16, 18, 19, 21] (.st 22 (.st 23 (.st 24 (.fin)))))))))))]
def ord6 : Ords := [(13, .ph [0, 2, 5, 1, 3, 4, 6] (.st 7 (.fin)))]
def ord7 : Ords := [(8, .ph [1, 3, 7] (.alt 0 (.st 2 (.st 4 (.st 5 (.st 6 (.fin))))) 2 (.alt 0 (.st 4 (.st 5 (.st 6 (.fin)))) 4 (.st 0 (.st 5 (.st 6 (.fin))))))), (11, .alt 0 (.alt 1 (.st 2 (.st 3 (.st 4 (.st 5 (.alt 6 (.alt 7 (.st 8 (.st 9 (.st 10 (.st 11 (.fin))))) 8 (.st 7 (.st 9 (.st 10 (.st 11 (.fin)))))) 8 (.st 6 (.st 7 (.st 9 (.st 10 (.st 11 (.fin))))))))))) 2 (.st 1 (.st 3 (.st 4 (.st 5 (.alt 6 (.alt 7 (.st 8 (.st 9 (.st 10 (.st 11 (.fin))))) 8 (.st 7 (.st 9 (.st 10 (.st 11 (.fin)))))) 8 (.st 6 (.st 7 (.st 9 (.st 10 (.st 11 (.fin)))))))))))) 2 (.st 0 (.st 1 (.st 3 (.st 4 (.st 5 (.alt 6 (.alt 7 (.st 8 (.st 9 (.st 10 (.st 11 (.fin))))) 8 (.st 7 (.st 9 (.st 10 (.st 11 (.fin)))))) 8 (.st 6 (.st 7 (.st 9 (.st 10 (.st 11 (.fin))))))))))))), (28, .ph [0] (.st 1 (.st 2 (.st 3 (.ph [4] (.st 5 (.st 6 (.st 7 (.st 8 (.ph [9] (.st 10 (.st 11 (.st 12 (.st 13 (.ph [14, 15] (.st 16 (.st 17 (.st 18 (.st 19 (.ph [20, 21] (.st 22 (.st 23 (.st 24 (.st 25 (.ph [26, 27] (.st 28 (.st 29 (.st 30 (.st 31 (.ph [33, 34, 37, 38] (.alt 32 (.alt 35 (.st 36 (.st 39 (.st 40 (.st 41 (.st 42 (.ph [44, 47] (.alt 43 (.alt 45 (.st 46 (.st 48 (.st 49 (.st 50 (.fin))))) 46 (.st 45 (.st 48 (.st 49 (.st 50 (.fin)))))) 46 (.st 43 (.st 45 (.st 48 (.st 49 (.st 50 (.fin))))))))))))) 36 (.st 35 (.st 39 (.st 40 (.st 41 (.st 42 (.ph [44, 47] (.alt 43 (.alt 45 (.st 46 (.st 48 (.st 49 (.st 50 (.fin))))) 46 (.st 45 (.st 48 (.st 49 (.st 50 (.fin)))))) 46 (.st 43 (.st 45 (.st 48 (.st 49 (.st 50 (.fin)))))))))))))) 36 (.st 32 (.st 35 (.st 39 (.st 40 (.st 41 (.st 42 (.ph [44, 47] (.alt 43 (.alt 45 (.st 46 (.st 48 (.st 49 (.st 50 (.fin))))) 46 (.st 45 (.st 48 (.st 49 (.st 50 (.fin)))))) 46 (.st 43 (.st 45 (.st 48 (.st 49 (.st 50 (.fin)))))))))))))))))))))))))))))))))))))))))))))]
def ord15 : Ords := [(6, .ph [0, 1, 2, 4, 5, 6, 3, 7] (.st 8 (.fin)))]
def ord16 : Ords := [(3, .ph [0, 2] (.st 1 (.st 3 (.st 4 (.st 5 (.st 6 (.ph [7, 9, 12, 14, 8, 10, 11, 13, 15, 16] (.st 17 (.st 18 (.st 19 (.fin)))))))))))]
def ord18 : Ords := [(3, .ph [0, 2] (.alt 1 (.st 3 (.st 4 (.st 5 (.st 6 (.fin))))) 3 (.st 1 (.st 4 (.st 5 (.st 6 (.fin)))))))]
def ord23 : Ords := [(3, .ph [0, 2] (.alt 1 (.st 3 (.st 4 (.st 5 (.st 6 (.fin))))) 3 (.st 1 (.st 4 (.st 5 (.st 6 (.fin)))))))]
def ord24 : Ords := [(6, .ph [0, 2, 5, 7, 1, 3, 4, 6, 8, 9] (.st 10 (.fin))), (11, .ph [0, 2, 5, 7, 1, 3, 4, 6, 8, 9] (.st 10 (.fin)))]
def ord25 : Ords := [(9, .ph [0, 2, 3] (.alt 1 (.st 4 (.st 5 (.st 6 (.fin)))) 4 (.st 1 (.st 5 (.st 6 (.fin)))))), (11, .ph [0, 2, 3] (.alt 1 (.st 4 (.st 5 (.st 6 (.fin)))) 4 (.st 1 (.st 5 (.st 6 (.fin))))))]
def ord26 : Ords := [(8, .ph [1, 3, 0, 2, 4, 5] (.st 6 (.st 7 (.st 8 (.ph [10, 12, 9, 11, 13, 14] (.st 15 (.st 16 (.st 17 (.fin)))))))))]
def ord27 : Ords := [(6, .ph [0, 2] (.st 1 (.st 3 (.st 4 (.st 5 (.st 6 (.ph [7, 9, 12, 8, 10, 11, 13, 14, 15] (.st 16 (.st 17 (.fin))))))))))]
def ord29 : Ords := [(9, .ph [0, 2, 5, 1, 3, 4, 6] (.st 7 (.st 8 (.ph [9, 11, 14, 10, 12, 13, 15] (.st 16 (.st 17 (.fin)))))))]
def ord32 : Ords := [(4, .ph [0, 2] (.st 1 (.st 3 (.st 4 (.st 5 (.st 6 (.st 7 (.st 8 (.st 9 (.st 10 (.ph [11, 13, 16, 12, 14, 15, 17] (.st 18 (.st 19 (.st 20 (.ph [21, 23, 26, 22, 24, 25, 27] (.st 28 (.st 29 (.st 30 (.fin))))))))))))))))))), (7, .ph [0, 2, 3, 5, 1, 4, 6, 7] (.st 8 (.st 9 (.fin))))]
def ord33 : Ords := [(1, .ph [1] (.st 0 (.st 2 (.st 3 (.st 4 (.ph [6] (.st 5 (.st 7 (.st 8 (.st 9 (.st 10 (.ph [11] (.st 12 (.st 13 (.st 14 (.st 15 (.ph [16, 18] (.st 17 (.st 19 (.st 20 (.st 21 (.st 22 (.st 23 (.ph [24, 26, 29, 31, 25, 27, 28, 30, 32, 33] (.st 34 (.st 35 (.st 36 (.fin))))))))))))))))))))))))))))]
def ord35 : Ords := [(2, .ph [0, 1, 2, 4, 5, 6, 3, 7, 8] (.st 9 (.fin))), (3, .ph [0, 1, 2, 4, 5, 6, 3, 7] (.st 8 (.st 9 (.st 10 (.st 11 (.fin)))))), (6, .ph [0, 1, 2, 4, 5, 6, 3, 7, 8] (.st 9 (.st 10 (.fin))))]
def ord38 : Ords := [(0, .ph [0, 1, 2, 3, 4] (.st 5 (.st 6 (.fin))))]
def ord40 : Ords := [(0, .ph [0, 1, 2, 5, 6, 7, 3, 4, 8] (.st 9 (.st 10 (.fin)))), (2, .ph [0, 1, 2, 5, 6, 7, 3, 4, 8] (.st 9 (.st 10 (.fin))))]
def ord43 : Ords := [(1, .ph [0, 3] (.alt 1 (.alt 2 (.st 4 (.ph [6] (.st 5 (.st 7 (.st 8 (.st 9 (.fin))))))) 4 (.st 2 (.ph [6] (.st 5 (.st 7 (.st 8 (.st 9 (.fin)))))))) 4 (.st 1 (.st 2 (.ph [6] (.st 5 (.st 7 (.st 8 (.st 9 (.fin))))))))))]
def ord44 : Ords := [(1, .ph [0, 1, 2] (.st 3 (.st 4 (.st 5 (.st 6 (.st 7 (.st 8 (.st 9 (.st 10 (.ph [11, 16, 12, 13, 14, 15, 17] (.st 18 (.st 19 (.st 20 (.ph [21, 26, 22, 23, 24, 25, 27] (.st 28 (.st 29 (.st 30 (.st 31 (.fin)))))))))))))))))))]
def ord45 : Ords := [(0, .ph [0, 1, 2, 5, 6, 7, 3, 4, 8, 9, 10, 11] (.st 12 (.st 13 (.fin))))]
def ord51 : Ords := [(1, .ph [0, 3] (.alt 1 (.alt 2 (.st 4 (.ph [6] (.st 5 (.st 7 (.st 8 (.st 9 (.fin))))))) 4 (.st 2 (.ph [6] (.st 5 (.st 7 (.st 8 (.st 9 (.fin)))))))) 4 (.st 1 (.st 2 (.ph [6] (.st 5 (.st 7 (.st 8 (.st 9 (.fin))))))))))]
theorem bytes_2 : (Γ.get 2).bytes = 8 := rfl
theorem bytes_3 : (Γ.get 3).bytes = 8 := rfl
theorem bytes_4 : (Γ.get 4).bytes = 1 := rfl
theorem bytes_5 : (Γ.get 5).bytes = 1 := rfl
theorem bytes_9 : (Γ.get 9).bytes = 16 := rfl
theorem bytes_12 : (Γ.get 12).bytes = 8 := rfl
theorem bytes_21 : (Γ.get 21).bytes = 4 := rfl
theorem bytes_22 : (Γ.get 22).bytes = 24 := rfl
theorem bytes_25 : (Γ.get 25).bytes = 8 := rfl
theorem bytes_27 : (Γ.get 27).bytes = 64 := rfl
theorem bytes_28 : (Γ.get 28).bytes = 64 := rfl
theorem bytes_31 : (Γ.get 31).bytes = 8 := rfl
theorem bytes_41 : (Γ.get 41).bytes = 24 := rfl
theorem bytes_43 : (Γ.get 43).bytes = 8 := rfl
theorem bytes_44 : (Γ.get 44).bytes = 40 := rfl
theorem bytes_45 : (Γ.get 45).bytes = 40 := rfl
theorem bytes_49 : (Γ.get 49).bytes = 8 := rfl
theorem bytes_51 : (Γ.get 51).bytes = 8 := rfl
theorem bytes_62 : (Γ.get 62).bytes = 24 := rfl
theorem bytes_71 : (Γ.get 71).bytes = 4 := rfl
theorem bytes_75 : (Γ.get 75).bytes = 8 := rfl
theorem bytes_78 : (Γ.get 78).bytes = 48 := rfl
end Kx
