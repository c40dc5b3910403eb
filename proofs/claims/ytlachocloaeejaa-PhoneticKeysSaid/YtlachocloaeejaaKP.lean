/-
  The types and the orders of the regions of this program, as the walk reads them.
  No condition beyond those written in each theorem.
-/
import Derived.Test.YtlachocloaeejaaFC
import Derived.Test.YtlachocloaeejaaProg
open Go Sx Go.Proofs
namespace Kx
def Γ : Ty := [
  (2, ⟨.int .i64, 1, 8, .int .i64 0⟩) /- int64 -/,
  (3, ⟨.int .i64, 1, 8, .int .i64 0⟩) /- int -/,
  (4, ⟨.bool, 1, 1, .lit false⟩) /- bool -/,
  (5, ⟨.int .u8, 1, 1, .int .u8 0⟩) /- uint8 -/,
  (9, ⟨.str, 1, 16, .str []⟩) /- string -/,
  (12, ⟨.int .u64, 1, 8, .int .u64 0⟩) /- uintptr -/,
  (21, ⟨.int .i32, 1, 4, .int .i32 0⟩) /- int32 -/,
  (22, ⟨.slice 3, 1, 24, .nil⟩) /- []int -/,
  (26, ⟨.ptr 37, 1, 8, .null⟩) /- *recordlinkmake.Deck -/,
  (29, ⟨.slice 9, 1, 24, .nil⟩) /- []string -/,
  (35, ⟨.int .u64, 1, 8, .int .u64 0⟩) /- uint64 -/,
  (36, ⟨.struct [(0, 1, 22), (1, 1, 3), (2, 1, 35)], 3, 40, .agg [.nil, .int .i64 0, .int .u64 0]⟩) /- struct { list []int; at int; state uint64 } -/,
  (37, ⟨.struct [(0, 1, 22), (1, 1, 3), (2, 1, 35)], 3, 40, .agg [.nil, .int .i64 0, .int .u64 0]⟩) /- recordlinkmake.Deck -/,
  (40, ⟨.slice 5, 1, 24, .nil⟩) /- []uint8 -/,
  (46, ⟨.int .u64, 1, 8, .int .u64 0⟩) /- uint -/,
  (50, ⟨.slice 52, 1, 24, .nil⟩) /- []strings.span -/,
  (51, ⟨.struct [(0, 1, 3), (1, 1, 3)], 2, 16, .agg [.int .i64 0, .int .i64 0]⟩) /- struct { start int; end int } -/,
  (52, ⟨.struct [(0, 1, 3), (1, 1, 3)], 2, 16, .agg [.int .i64 0, .int .i64 0]⟩) /- strings.span -/,
  (59, ⟨.int .u32, 1, 4, .int .u32 0⟩) /- uint32 -/,
  (63, ⟨.ptr 5, 1, 8, .null⟩) /- *uint8 -/,
  (66, ⟨.struct [(0, 1, 12), (1, 1, 12), (2, 1, 59), (3, 1, 60), (4, 1, 5), (5, 1, 5), (6, 1, 61), (7, 1, 62), (8, 1, 63), (9, 1, 64), (10, 1, 65)], 11, 48, .agg [.int .u64 0, .int .u64 0, .int .u32 0, .int .u8 0, .int .u8 0, .int .u8 0, .int .u8 0, .nilfn, .null, .int .i32 0, .int .i32 0]⟩) /- struct { Size_ uintptr; PtrBytes uintptr; Hash uint32; TFlag -/]
theorem hΓ : TyOK Try.prog Γ := tyOK (by decide)
theorem hm : Try.prog.follows .mixedOrders = true := by decide
def ord4 : Ords := [(6, .ph [0, 1, 2, 3, 4, 5, 6, 7, 8, 9] (.st 10 (.st 11 (.st 12 (.st 13 (.fin))))))]
def ord5 : Ords := [(6, .ph [0, 2, 3, 4, 5, 9, 10, 11] (.alt 1 (.st 6 (.st 7 (.st 8 (.st 12 (.st 13 (.st 14 (.st 15 (.ph [16, 18, 19, 20, 21, 25, 26, 27] (.alt 17 (.st 22 (.st 23 (.st 24 (.st 28 (.st 29 (.st 30 (.st 31 (.st 32 (.fin))))))))) 22 (.st 17 (.st 23 (.st 24 (.st 28 (.st 29 (.st 30 (.st 31 (.st 32 (.fin)))))))))))))))))) 6 (.st 1 (.st 7 (.st 8 (.st 12 (.st 13 (.st 14 (.st 15 (.ph [16, 18, 19, 20, 21, 25, 26, 27] (.alt 17 (.st 22 (.st 23 (.st 24 (.st 28 (.st 29 (.st 30 (.st 31 (.st 32 (.fin))))))))) 22 (.st 17 (.st 23 (.st 24 (.st 28 (.st 29 (.st 30 (.st 31 (.st 32 (.fin))))))))))))))))))))]
def ord6 : Ords := [(6, .st 0 (.st 1 (.st 2 (.st 3 (.ph [4, 5] (.st 6 (.st 7 (.st 8 (.st 9 (.st 10 (.st 11 (.st 12 (.st 13 (.st 14 (.st 15 (.st 16 (.st 17 (.st 18 (.st 19 (.st 20 (.ph [21, 22] (.st 23 (.st 24 (.st 25 (.st 26 (.st 27 (.ph [28, 30] (.st 29 (.st 31 (.st 32 (.fin))))))))))))))))))))))))))))))), (16, .ph [0, 1, 2, 3] (.st 4 (.st 5 (.st 6 (.st 7 (.fin))))))]
def ord15 : Ords := [(3, .ph [0, 1, 3, 4] (.alt 2 (.st 5 (.st 6 (.st 7 (.fin)))) 5 (.st 2 (.st 6 (.st 7 (.fin))))))]
def ord17 : Ords := [(8, .st 0 (.st 1 (.st 2 (.st 3 (.st 4 (.st 5 (.st 6 (.ph [7, 8, 9, 10] (.st 11 (.st 12 (.st 13 (.st 14 (.st 15 (.st 16 (.st 17 (.fin))))))))))))))))]
def ord18 : Ords := [(7, .ph [0] (.st 1 (.st 2 (.st 3 (.st 4 (.st 5 (.ph [6, 7, 8, 9] (.st 10 (.st 11 (.st 12 (.st 13 (.st 14 (.st 15 (.fin))))))))))))))]
def ord33 : Ords := [(2, .ph [0, 1, 2, 4, 5, 6, 3, 7, 8] (.st 9 (.fin))), (3, .ph [0, 1, 2, 4, 5, 6, 3, 7] (.st 8 (.st 9 (.st 10 (.st 11 (.fin)))))), (6, .ph [0, 1, 2, 4, 5, 6, 3, 7, 8] (.st 9 (.st 10 (.fin))))]
theorem bytes_2 : (Γ.get 2).bytes = 8 := rfl
theorem bytes_3 : (Γ.get 3).bytes = 8 := rfl
theorem bytes_4 : (Γ.get 4).bytes = 1 := rfl
theorem bytes_5 : (Γ.get 5).bytes = 1 := rfl
theorem bytes_9 : (Γ.get 9).bytes = 16 := rfl
theorem bytes_12 : (Γ.get 12).bytes = 8 := rfl
theorem bytes_21 : (Γ.get 21).bytes = 4 := rfl
theorem bytes_22 : (Γ.get 22).bytes = 24 := rfl
theorem bytes_26 : (Γ.get 26).bytes = 8 := rfl
theorem bytes_29 : (Γ.get 29).bytes = 24 := rfl
theorem bytes_35 : (Γ.get 35).bytes = 8 := rfl
theorem bytes_36 : (Γ.get 36).bytes = 40 := rfl
theorem bytes_37 : (Γ.get 37).bytes = 40 := rfl
theorem bytes_40 : (Γ.get 40).bytes = 24 := rfl
theorem bytes_46 : (Γ.get 46).bytes = 8 := rfl
theorem bytes_50 : (Γ.get 50).bytes = 24 := rfl
theorem bytes_51 : (Γ.get 51).bytes = 16 := rfl
theorem bytes_52 : (Γ.get 52).bytes = 16 := rfl
theorem bytes_59 : (Γ.get 59).bytes = 4 := rfl
theorem bytes_63 : (Γ.get 63).bytes = 8 := rfl
theorem bytes_66 : (Γ.get 66).bytes = 48 := rfl
end Kx
