/-
  The types and the orders of the regions of this program, as the walk reads them.
  No condition beyond those written in each theorem.
-/
import Derived.Test.YtgcandklomkhlaaFC
import Derived.Test.YtgcandklomkhlaaProg
open Go Sx Go.Proofs
namespace Kx
def Γ : Ty := [
  (2, ⟨.int .i64, 1, 8, .int .i64 0⟩) /- int64 -/,
  (3, ⟨.int .i64, 1, 8, .int .i64 0⟩) /- int -/,
  (4, ⟨.bool, 1, 1, .lit false⟩) /- bool -/,
  (5, ⟨.int .u8, 1, 1, .int .u8 0⟩) /- uint8 -/,
  (9, ⟨.str, 1, 16, .str []⟩) /- string -/,
  (12, ⟨.int .u64, 1, 8, .int .u64 0⟩) /- uintptr -/,
  (21, ⟨.int .i32, 1, 4, .int .i32 0⟩) /- int32 -/,
  (22, ⟨.slice 3, 1, 24, .nil⟩) /- []int -/,
  (25, ⟨.ptr 54, 1, 8, .null⟩) /- *recordlinkmake.Deck -/,
  (27, ⟨.slice 34, 1, 24, .nil⟩) /- []api.Event -/,
  (29, ⟨.slice 60, 1, 24, .nil⟩) /- []api.Row -/,
  (32, ⟨.slice 9, 1, 24, .nil⟩) /- []string -/,
  (33, ⟨.struct [(0, 1, 3), (1, 1, 3), (2, 1, 3), (3, 1, 32), (4, 1, 3), (5, 1, 3)], 6, 64, .agg [.int .i64 0, .int .i64 0, .int .i64 0, .nil, .int .i64 0, .int .i64 0]⟩) /- struct { Kind int; ID int; Version int; Values []string; Sta -/,
  (34, ⟨.struct [(0, 1, 3), (1, 1, 3), (2, 1, 3), (3, 1, 32), (4, 1, 3), (5, 1, 3)], 6, 64, .agg [.int .i64 0, .int .i64 0, .int .i64 0, .nil, .int .i64 0, .int .i64 0]⟩) /- api.Event -/,
  (38, ⟨.int .i64, 1, 8, .int .i64 0⟩) /- api.Errno -/,
  (40, ⟨.slice 45, 1, 24, .nil⟩) /- []api.Record -/,
  (44, ⟨.struct [(0, 1, 3), (1, 1, 3), (2, 1, 32)], 3, 40, .agg [.int .i64 0, .int .i64 0, .nil]⟩) /- struct { ID int; Version int; Values []string } -/,
  (45, ⟨.struct [(0, 1, 3), (1, 1, 3), (2, 1, 32)], 3, 40, .agg [.int .i64 0, .int .i64 0, .nil]⟩) /- api.Record -/,
  (52, ⟨.int .u64, 1, 8, .int .u64 0⟩) /- uint64 -/,
  (53, ⟨.struct [(0, 1, 22), (1, 1, 3), (2, 1, 52)], 3, 40, .agg [.nil, .int .i64 0, .int .u64 0]⟩) /- struct { list []int; at int; state uint64 } -/,
  (54, ⟨.struct [(0, 1, 22), (1, 1, 3), (2, 1, 52)], 3, 40, .agg [.nil, .int .i64 0, .int .u64 0]⟩) /- recordlinkmake.Deck -/,
  (58, ⟨.int .u64, 1, 8, .int .u64 0⟩) /- uint -/,
  (59, ⟨.struct [(0, 1, 3), (1, 1, 3), (2, 1, 32), (3, 1, 3), (4, 1, 3), (5, 1, 3)], 6, 64, .agg [.int .i64 0, .int .i64 0, .nil, .int .i64 0, .int .i64 0, .int .i64 0]⟩) /- struct { ID int; Version int; Values []string; StatusVersion -/,
  (60, ⟨.struct [(0, 1, 3), (1, 1, 3), (2, 1, 32), (3, 1, 3), (4, 1, 3), (5, 1, 3)], 6, 64, .agg [.int .i64 0, .int .i64 0, .nil, .int .i64 0, .int .i64 0, .int .i64 0]⟩) /- api.Row -/,
  (93, ⟨.int .u32, 1, 4, .int .u32 0⟩) /- uint32 -/,
  (97, ⟨.ptr 5, 1, 8, .null⟩) /- *uint8 -/,
  (100, ⟨.struct [(0, 1, 12), (1, 1, 12), (2, 1, 93), (3, 1, 94), (4, 1, 5), (5, 1, 5), (6, 1, 95), (7, 1, 96), (8, 1, 97), (9, 1, 98), (10, 1, 99)], 11, 48, .agg [.int .u64 0, .int .u64 0, .int .u32 0, .int .u8 0, .int .u8 0, .int .u8 0, .int .u8 0, .nilfn, .null, .int .i32 0, .int .i32 0]⟩) /- struct { Size_ uintptr; PtrBytes uintptr; Hash uint32; TFlag -/]
theorem hΓ : TyOK Try.prog Γ := tyOK (by decide +kernel)
theorem hm : Try.prog.follows .mixedOrders = true := by decide +kernel
def ord3 : Ords := [(17, .ph [0, 1, 2, 3, 4, 5, 6, 8, 9, 10, 7] (.ph [11] (.ph [12] (.st 13 (.ph [14] (.st 15 (.fin)))))))]
def ord4 : Ords := [(19, .ph [0, 2, 1, 6] (.ph [3] (.ph [4] (.ph [5] (.ph [7] (.fin)))))), (23, .ph [0, 2, 4, 1, 6, 3, 7] (.ph [5] (.ph [8] (.fin))))]
def ord15 : Ords := [(6, .ph [0, 1, 2, 4, 5, 6] (.way 3 (.way 7 (.alt 8 (.st 9 (.st 10 (.st 11 (.fin)))) 9 (.st 8 (.st 10 (.st 11 (.fin))))) (.way 8 (.alt 7 (.st 9 (.st 10 (.st 11 (.fin)))) 9 (.alt 7 (.st 10 (.st 11 (.fin))) 10 (.ph [7] (.st 11 (.fin))))) (.way 9 (.alt 7 (.st 8 (.st 10 (.st 11 (.fin)))) 8 (.alt 7 (.st 10 (.st 11 (.fin))) 10 (.ph [7] (.st 11 (.fin))))) (.non)))) (.way 7 (.ph [3] (.alt 8 (.st 9 (.st 10 (.st 11 (.fin)))) 9 (.st 8 (.st 10 (.st 11 (.fin)))))) (.way 8 (.way 3 (.alt 7 (.st 9 (.st 10 (.st 11 (.fin)))) 9 (.alt 7 (.st 10 (.st 11 (.fin))) 10 (.ph [7] (.st 11 (.fin))))) (.way 7 (.ph [3] (.st 9 (.st 10 (.st 11 (.fin))))) (.way 9 (.ph [3] (.alt 7 (.st 10 (.st 11 (.fin))) 10 (.ph [7] (.st 11 (.fin))))) (.non)))) (.way 9 (.way 3 (.alt 7 (.st 8 (.st 10 (.st 11 (.fin)))) 8 (.alt 7 (.st 10 (.st 11 (.fin))) 10 (.ph [7] (.st 11 (.fin))))) (.way 7 (.ph [3] (.st 8 (.st 10 (.st 11 (.fin))))) (.way 8 (.ph [3] (.alt 7 (.st 10 (.st 11 (.fin))) 10 (.ph [7] (.st 11 (.fin))))) (.non)))) (.non))))))]
def ord16 : Ords := [(10, .ph [0] (.ph [1] (.ph [2, 3, 4, 5, 6, 7, 9, 8] (.ph [10] (.ph [11] (.ph [12] (.ph [13] (.fin))))))))]
def ord17 : Ords := [(10, .ph [0, 1, 3, 5, 2, 4] (.ph [6] (.qc 7 (.ph [8] (.st 9 (.st 10 (.ph [11] (.fin))))))))]
def ord19 : Ords := [(7, .ph [0, 2] (.qc 1 (.qc 3 (.st 4 (.ph [5] (.fin))))))]
def ord23 : Ords := [(9, .ph [0, 2] (.alt 1 (.st 3 (.st 4 (.st 5 (.ph [6] (.st 7 (.fin)))))) 3 (.alt 1 (.st 4 (.st 5 (.ph [6] (.st 7 (.fin))))) 4 (.ph [1] (.st 5 (.ph [6] (.st 7 (.fin))))))))]
def ord25 : Ords := [(2, .ph [0, 1, 2, 4, 5, 6, 3] (.ph [7] (.ph [8] (.ph [9] (.fin))))), (3, .ph [0, 1, 2, 4, 5, 6, 3] (.ph [7] (.ph [8] (.ph [9] (.ph [10] (.ph [11] (.fin))))))), (6, .ph [0, 1, 2, 4, 5, 6, 3] (.ph [7] (.ph [8] (.ph [9] (.ph [10] (.fin))))))]
def ord26 : Ords := [(4, .ph [0, 1, 2, 4, 5, 6, 3] (.ph [7] (.ph [8] (.fin)))), (6, .ph [0, 1, 2, 4, 5, 6, 3] (.ph [7] (.ph [8] (.fin))))]
def ord33 : Ords := [(3, .ph [0, 1, 2, 3, 4, 5] (.ph [6] (.qc 7 (.ph [8] (.st 9 (.fin))))))]
def ord45 : Ords := [(2, .ph [0, 2, 1, 4] (.alt 3 (.st 5 (.ph [6] (.st 7 (.fin)))) 5 (.ph [3] (.ph [6] (.st 7 (.fin)))))), (4, .ph [0, 2, 4, 1, 6] (.way 3 (.alt 5 (.st 7 (.ph [8] (.st 9 (.ph [10] (.st 11 (.fin)))))) 7 (.ph [8] (.alt 5 (.st 9 (.ph [10] (.st 11 (.fin)))) 9 (.ph [5] (.ph [10] (.st 11 (.fin))))))) (.way 5 (.alt 3 (.st 7 (.ph [8] (.st 9 (.ph [10] (.st 11 (.fin)))))) 7 (.ph [3] (.ph [8] (.st 9 (.ph [10] (.st 11 (.fin))))))) (.way 7 (.ph [3, 8] (.alt 5 (.st 9 (.ph [10] (.st 11 (.fin)))) 9 (.ph [5] (.ph [10] (.st 11 (.fin)))))) (.non)))))]
def ord46 : Ords := [(11, .ph [0, 1, 2, 3, 4, 5] (.ph [6] (.ph [7] (.st 8 (.fin))))), (15, .ph [0, 1, 2, 3, 4, 5] (.ph [6] (.ph [7] (.st 8 (.fin)))))]
def ord47 : Ords := [(11, .ph [0] (.ph [1] (.ph [2, 3, 4, 5, 6, 7, 9, 8] (.ph [10] (.ph [11] (.ph [12] (.fin)))))))]
def ord48 : Ords := [(6, .ph [0] (.ph [1] (.ph [2, 3, 4, 5, 6, 8, 7] (.ph [9] (.ph [10] (.ph [11] (.fin))))))), (8, .ph [0, 1, 2, 3, 5, 4] (.ph [6] (.ph [7] (.fin)))), (9, .ph [0, 1, 2, 3, 4] (.ph [5] (.qc 6 (.st 7 (.st 8 (.ph [9] (.fin))))))), (11, .ph [0, 1, 2, 3, 5, 6, 7, 4] (.ph [8] (.qc 9 (.st 10 (.st 11 (.ph [12] (.fin)))))))]
def ord53 : Ords := [(1, .ph [0, 2, 5, 7, 1, 3, 6, 8] (.qc 4 (.qc 9 (.st 10 (.qc 11 (.ph [12] (.fin)))))))]
def ord54 : Ords := [(1, .ph [0, 2, 5, 7, 10, 12, 1, 3, 6, 8, 11, 13] (.qc 4 (.qc 9 (.qc 14 (.st 15 (.qc 16 (.ph [17] (.fin))))))))]
def ord59 : Ords := [(3, .ph [0, 2, 1, 4] (.alt 3 (.st 5 (.ph [6] (.st 7 (.fin)))) 5 (.ph [3] (.ph [6] (.st 7 (.fin)))))), (5, .ph [0, 2, 4, 1, 6] (.way 3 (.alt 5 (.st 7 (.ph [8] (.st 9 (.ph [10] (.st 11 (.fin)))))) 7 (.ph [8] (.alt 5 (.st 9 (.ph [10] (.st 11 (.fin)))) 9 (.ph [5] (.ph [10] (.st 11 (.fin))))))) (.way 5 (.alt 3 (.st 7 (.ph [8] (.st 9 (.ph [10] (.st 11 (.fin)))))) 7 (.ph [3] (.ph [8] (.st 9 (.ph [10] (.st 11 (.fin))))))) (.way 7 (.ph [3, 8] (.alt 5 (.st 9 (.ph [10] (.st 11 (.fin)))) 9 (.ph [5] (.ph [10] (.st 11 (.fin)))))) (.non)))))]
def ord66 : Ords := [(3, .ph [0, 1, 2, 3, 4, 5, 6, 8, 9, 10, 7] (.ph [11] (.ph [12] (.st 13 (.ph [14] (.st 15 (.fin)))))))]
theorem bytes_2 : (Γ.get 2).bytes = 8 := rfl
theorem bytes_3 : (Γ.get 3).bytes = 8 := rfl
theorem bytes_4 : (Γ.get 4).bytes = 1 := rfl
theorem bytes_5 : (Γ.get 5).bytes = 1 := rfl
theorem bytes_9 : (Γ.get 9).bytes = 16 := rfl
theorem bytes_12 : (Γ.get 12).bytes = 8 := rfl
theorem bytes_21 : (Γ.get 21).bytes = 4 := rfl
theorem bytes_22 : (Γ.get 22).bytes = 24 := rfl
theorem bytes_25 : (Γ.get 25).bytes = 8 := rfl
theorem bytes_27 : (Γ.get 27).bytes = 24 := rfl
theorem bytes_29 : (Γ.get 29).bytes = 24 := rfl
theorem bytes_32 : (Γ.get 32).bytes = 24 := rfl
theorem bytes_33 : (Γ.get 33).bytes = 64 := rfl
theorem bytes_34 : (Γ.get 34).bytes = 64 := rfl
theorem bytes_38 : (Γ.get 38).bytes = 8 := rfl
theorem bytes_40 : (Γ.get 40).bytes = 24 := rfl
theorem bytes_44 : (Γ.get 44).bytes = 40 := rfl
theorem bytes_45 : (Γ.get 45).bytes = 40 := rfl
theorem bytes_52 : (Γ.get 52).bytes = 8 := rfl
theorem bytes_53 : (Γ.get 53).bytes = 40 := rfl
theorem bytes_54 : (Γ.get 54).bytes = 40 := rfl
theorem bytes_58 : (Γ.get 58).bytes = 8 := rfl
theorem bytes_59 : (Γ.get 59).bytes = 64 := rfl
theorem bytes_60 : (Γ.get 60).bytes = 64 := rfl
theorem bytes_93 : (Γ.get 93).bytes = 4 := rfl
theorem bytes_97 : (Γ.get 97).bytes = 8 := rfl
theorem bytes_100 : (Γ.get 100).bytes = 48 := rfl
end Kx
