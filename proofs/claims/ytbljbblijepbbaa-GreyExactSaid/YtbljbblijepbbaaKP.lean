/-
  The types and the orders of the regions of this program, as the walk reads them.
  No condition beyond those written in each theorem.
-/
import Derived.Test.YtbljbblijepbbaaFC
import Derived.Test.YtbljbblijepbbaaProg
open Go Sx Go.Proofs
namespace Kx
def Γ : Ty := [
  (2, ⟨.int .i64, 1, 8, .int .i64 0⟩) /- int64 -/,
  (3, ⟨.int .i64, 1, 8, .int .i64 0⟩) /- int -/,
  (4, ⟨.bool, 1, 1, .lit false⟩) /- bool -/,
  (5, ⟨.int .u8, 1, 1, .int .u8 0⟩) /- uint8 -/,
  (9, ⟨.str, 1, 16, .str []⟩) /- string -/,
  (12, ⟨.int .u64, 1, 8, .int .u64 0⟩) /- uintptr -/,
  (21, ⟨.int .i32, 1, 4, .int .i32 0⟩) /- int32 -/,
  (22, ⟨.slice 3, 1, 24, .nil⟩) /- []int -/,
  (25, ⟨.ptr 77, 1, 8, .null⟩) /- *recordlinkmake.Deck -/,
  (27, ⟨.struct [(0, 1, 3), (1, 1, 3)], 2, 16, .agg [.int .i64 0, .int .i64 0]⟩) /- struct { Low int; High int } -/,
  (28, ⟨.struct [(0, 1, 3), (1, 1, 3)], 2, 16, .agg [.int .i64 0, .int .i64 0]⟩) /- api.Thresholds -/,
  (30, ⟨.slice 39, 1, 24, .nil⟩) /- []api.Candidate -/,
  (32, ⟨.slice 46, 1, 24, .nil⟩) /- []api.Bond -/,
  (33, ⟨.int .i64, 1, 8, .int .i64 0⟩) /- api.Errno -/,
  (36, ⟨.struct [(0, 1, 3), (1, 1, 3)], 2, 16, .agg [.int .i64 0, .int .i64 0]⟩) /- struct { Registry int; ID int } -/,
  (37, ⟨.struct [(0, 1, 3), (1, 1, 3)], 2, 16, .agg [.int .i64 0, .int .i64 0]⟩) /- api.Ref -/,
  (38, ⟨.struct [(0, 2, 37), (2, 2, 37), (4, 1, 3), (5, 1, 3)], 6, 48, .agg [.int .i64 0, .int .i64 0, .int .i64 0, .int .i64 0, .int .i64 0, .int .i64 0]⟩) /- struct { A api.Ref; B api.Ref; Pattern int; Weight int } -/,
  (39, ⟨.struct [(0, 2, 37), (2, 2, 37), (4, 1, 3), (5, 1, 3)], 6, 48, .agg [.int .i64 0, .int .i64 0, .int .i64 0, .int .i64 0, .int .i64 0, .int .i64 0]⟩) /- api.Candidate -/,
  (41, ⟨.slice 4, 1, 24, .nil⟩) /- []bool -/,
  (42, ⟨.struct [(0, 2, 37), (2, 2, 37), (4, 1, 3), (5, 1, 3), (6, 1, 4)], 7, 56, .agg [.int .i64 0, .int .i64 0, .int .i64 0, .int .i64 0, .int .i64 0, .int .i64 0, .lit false]⟩) /- struct { A api.Ref; B api.Ref; VersionA int; VersionB int; S -/,
  (43, ⟨.struct [(0, 2, 37), (2, 2, 37), (4, 1, 3), (5, 1, 3), (6, 1, 4)], 7, 56, .agg [.int .i64 0, .int .i64 0, .int .i64 0, .int .i64 0, .int .i64 0, .int .i64 0, .lit false]⟩) /- api.Decision -/,
  (44, ⟨.slice 43, 1, 24, .nil⟩) /- []api.Decision -/,
  (45, ⟨.struct [(0, 2, 37), (2, 2, 37), (4, 1, 3)], 5, 40, .agg [.int .i64 0, .int .i64 0, .int .i64 0, .int .i64 0, .int .i64 0]⟩) /- struct { A api.Ref; B api.Ref; Weight int } -/,
  (46, ⟨.struct [(0, 2, 37), (2, 2, 37), (4, 1, 3)], 5, 40, .agg [.int .i64 0, .int .i64 0, .int .i64 0, .int .i64 0, .int .i64 0]⟩) /- api.Bond -/,
  (52, ⟨.slice 68, 1, 24, .nil⟩) /- [][]api.Sent -/,
  (56, ⟨.slice 28, 1, 24, .nil⟩) /- []api.Thresholds -/,
  (58, ⟨.slice 30, 1, 24, .nil⟩) /- [][]api.Candidate -/,
  (60, ⟨.slice 44, 1, 24, .nil⟩) /- [][]api.Decision -/,
  (67, ⟨.slice 37, 1, 24, .nil⟩) /- []api.Ref -/,
  (68, ⟨.slice 74, 1, 24, .nil⟩) /- []api.Sent -/,
  (69, ⟨.slice 96, 1, 24, .nil⟩) /- []api.Bits -/,
  (70, ⟨.struct [(0, 1, 3), (1, 1, 3), (2, 1, 69)], 3, 40, .agg [.int .i64 0, .int .i64 0, .nil]⟩) /- struct { ID int; Version int; Fields []api.Bits } -/,
  (71, ⟨.struct [(0, 1, 3), (1, 1, 3), (2, 1, 69)], 3, 40, .agg [.int .i64 0, .int .i64 0, .nil]⟩) /- api.Encoded -/,
  (72, ⟨.slice 75, 1, 24, .nil⟩) /- []uint64 -/,
  (73, ⟨.struct [(0, 3, 71), (3, 1, 72), (4, 1, 41)], 5, 88, .agg [.int .i64 0, .int .i64 0, .nil, .nil, .nil]⟩) /- struct { Record api.Encoded; Hashes []uint64; Has []bool } -/,
  (74, ⟨.struct [(0, 3, 71), (3, 1, 72), (4, 1, 41)], 5, 88, .agg [.int .i64 0, .int .i64 0, .nil, .nil, .nil]⟩) /- api.Sent -/,
  (75, ⟨.int .u64, 1, 8, .int .u64 0⟩) /- uint64 -/,
  (76, ⟨.struct [(0, 1, 22), (1, 1, 3), (2, 1, 75)], 3, 40, .agg [.nil, .int .i64 0, .int .u64 0]⟩) /- struct { list []int; at int; state uint64 } -/,
  (77, ⟨.struct [(0, 1, 22), (1, 1, 3), (2, 1, 75)], 3, 40, .agg [.nil, .int .i64 0, .int .u64 0]⟩) /- recordlinkmake.Deck -/,
  (81, ⟨.map 85 4, 1, 8, .any⟩) /- map[grey.couple]bool -/,
  (84, ⟨.struct [(0, 2, 37), (2, 2, 37)], 4, 32, .agg [.int .i64 0, .int .i64 0, .int .i64 0, .int .i64 0]⟩) /- struct { a api.Ref; b api.Ref } -/,
  (85, ⟨.struct [(0, 2, 37), (2, 2, 37)], 4, 32, .agg [.int .i64 0, .int .i64 0, .int .i64 0, .int .i64 0]⟩) /- grey.couple -/,
  (87, ⟨.int .u64, 1, 8, .int .u64 0⟩) /- uint -/,
  (95, ⟨.struct [(0, 1, 3), (1, 1, 72)], 2, 32, .agg [.int .i64 0, .nil]⟩) /- struct { Length int; Words []uint64 } -/,
  (96, ⟨.struct [(0, 1, 3), (1, 1, 72)], 2, 32, .agg [.int .i64 0, .nil]⟩) /- api.Bits -/,
  (111, ⟨.int .u32, 1, 4, .int .u32 0⟩) /- uint32 -/,
  (115, ⟨.ptr 5, 1, 8, .null⟩) /- *uint8 -/]
theorem hΓ : TyOK Try.prog Γ := tyOK (by decide +kernel)
theorem hm : Try.prog.follows .mixedOrders = true := by decide +kernel
def ord4 : Ords := [(6, .ph [0, 2, 4] (.way 1 (.way 3 (.alt 5 (.ph [6, 7] (.st 8 (.st 9 (.fin)))) 8 (.st 5 (.ph [6] (.ph [7] (.st 9 (.fin)))))) (.way 5 (.ph [3, 6, 7] (.st 8 (.st 9 (.fin)))) (.way 8 (.alt 3 (.st 5 (.ph [6] (.ph [7] (.st 9 (.fin))))) 5 (.ph [3] (.ph [6] (.ph [7] (.st 9 (.fin)))))) (.non)))) (.way 3 (.way 1 (.alt 5 (.ph [6, 7] (.st 8 (.st 9 (.fin)))) 8 (.st 5 (.ph [6] (.ph [7] (.st 9 (.fin)))))) (.way 5 (.ph [6, 1, 7] (.st 8 (.st 9 (.fin)))) (.way 8 (.alt 1 (.st 5 (.ph [6] (.ph [7] (.st 9 (.fin))))) 5 (.ph [6] (.ph [1] (.ph [7] (.st 9 (.fin)))))) (.non)))) (.way 5 (.ph [1, 3, 6, 7] (.st 8 (.st 9 (.fin)))) (.way 8 (.way 1 (.alt 3 (.st 5 (.ph [6] (.ph [7] (.st 9 (.fin))))) 5 (.ph [3] (.ph [6] (.ph [7] (.st 9 (.fin)))))) (.way 3 (.alt 1 (.st 5 (.ph [6] (.ph [7] (.st 9 (.fin))))) 5 (.ph [6] (.ph [1] (.ph [7] (.st 9 (.fin)))))) (.way 5 (.ph [1] (.ph [3] (.ph [6] (.ph [7] (.st 9 (.fin)))))) (.non)))) (.non))))))]
def ord5 : Ords := [(11, .ph [0] (.ph [1] (.ph [2, 3, 4, 5, 6, 7, 9, 8] (.ph [10] (.ph [11] (.ph [12] (.ph [13, 14, 15, 16, 17, 18, 20, 19] (.ph [21] (.ph [22] (.ph [23] (.fin)))))))))))]
def ord6 : Ords := [(16, .ph [0, 2] (.qc 1 (.qc 3 (.ph [4] (.ph [5, 6, 10, 7, 8, 11, 12] (.qc 9 (.qc 13 (.ph [14] (.ph [15] (.fin)))))))))), (18, .ph [1, 3, 7] (.alt 0 (.st 2 (.st 4 (.st 5 (.ph [6] (.fin))))) 2 (.alt 0 (.st 4 (.st 5 (.ph [6] (.fin)))) 4 (.ph [0] (.st 5 (.ph [6] (.fin))))))), (21, .ph [0, 2] (.qc 1 (.qc 3 (.ph [4] (.ph [5, 7, 10, 6, 9] (.qc 8 (.qc 11 (.ph [12] (.ph [13] (.ph [14, 16, 20, 15, 17, 19, 21] (.qc 18 (.qc 22 (.ph [23] (.ph [24] (.ph [25, 27, 31, 26, 28, 30, 32] (.qc 29 (.qc 33 (.ph [34] (.ph [35] (.fin))))))))))))))))))))]
def ord7 : Ords := [(27, .ph [0] (.ph [1] (.ph [2] (.ph [3] (.ph [4, 5, 6, 7, 8] (.ph [9] (.ph [10] (.ph [11] (.fin)))))))))]
def ord11 : Ords := [(2, .ph [0, 2] (.alt 1 (.st 3 (.ph [4] (.ph [5] (.st 6 (.fin))))) 3 (.ph [1] (.ph [4] (.ph [5] (.st 6 (.fin)))))))]
def ord12 : Ords := [(10, .ph [0, 1, 3, 5, 6, 8] (.way 2 (.alt 4 (.st 7 (.st 9 (.ph [10] (.st 11 (.st 12 (.ph [13] (.fin))))))) 7 (.alt 4 (.st 9 (.ph [10] (.st 11 (.st 12 (.ph [13] (.fin)))))) 9 (.ph [4] (.ph [10] (.st 11 (.st 12 (.ph [13] (.fin)))))))) (.way 4 (.alt 2 (.st 7 (.st 9 (.ph [10] (.st 11 (.st 12 (.ph [13] (.fin))))))) 7 (.alt 2 (.st 9 (.ph [10] (.st 11 (.st 12 (.ph [13] (.fin)))))) 9 (.ph [2] (.ph [10] (.st 11 (.st 12 (.ph [13] (.fin)))))))) (.way 7 (.way 2 (.alt 4 (.st 9 (.ph [10] (.st 11 (.st 12 (.ph [13] (.fin)))))) 9 (.ph [4] (.ph [10] (.st 11 (.st 12 (.ph [13] (.fin))))))) (.way 4 (.alt 2 (.st 9 (.ph [10] (.st 11 (.st 12 (.ph [13] (.fin)))))) 9 (.ph [2] (.ph [10] (.st 11 (.st 12 (.ph [13] (.fin))))))) (.way 9 (.ph [2] (.ph [4] (.ph [10] (.st 11 (.st 12 (.ph [13] (.fin))))))) (.non)))) (.non)))))]
def ord17 : Ords := [(18, .ph [0, 2] (.alt 1 (.st 3 (.ph [4] (.ph [5] (.ph [6] (.st 7 (.fin)))))) 3 (.ph [4] (.ph [1] (.ph [5] (.ph [6] (.st 7 (.fin))))))))]
def ord18 : Ords := [(6, .ph [0, 1, 2, 4, 5, 6, 3] (.ph [7] (.ph [8] (.fin))))]
def ord23 : Ords := [(6, .ph [0, 2, 6] (.way 1 (.alt 3 (.ph [4] (.alt 5 (.st 7 (.ph [8] (.ph [9] (.ph [10] (.st 11 (.fin)))))) 7 (.st 5 (.ph [8] (.ph [9] (.ph [10] (.st 11 (.fin)))))))) 7 (.ph [3] (.ph [4] (.st 5 (.ph [8] (.ph [9] (.ph [10] (.st 11 (.fin))))))))) (.way 3 (.ph [4] (.alt 1 (.alt 5 (.st 7 (.ph [8] (.ph [9] (.ph [10] (.st 11 (.fin)))))) 7 (.st 5 (.ph [8] (.ph [9] (.ph [10] (.st 11 (.fin))))))) 7 (.ph [1] (.st 5 (.ph [8] (.ph [9] (.ph [10] (.st 11 (.fin))))))))) (.way 7 (.ph [1] (.ph [3] (.ph [4] (.st 5 (.ph [8] (.ph [9] (.ph [10] (.st 11 (.fin))))))))) (.non)))))]
def ord27 : Ords := [(13, .ph [0, 1, 2, 3, 4, 6, 7, 8, 5] (.ph [9] (.ph [10] (.st 11 (.ph [12] (.st 13 (.fin)))))))]
def ord28 : Ords := [(8, .ph [1, 2, 3, 4, 0] (.ph [5] (.qc 6 (.ph [7] (.fin))))), (10, .ph [0, 1, 2, 3, 4, 6, 7, 8, 9, 5] (.ph [10] (.qc 11 (.ph [12] (.fin))))), (14, .ph [0, 1, 2, 3, 4, 6, 7, 8, 9, 11, 12, 13, 14, 16, 5, 10, 15] (.ph [17] (.ph [18] (.ph [19] (.st 20 (.st 21 (.ph [22] (.fin))))))))]
def ord29 : Ords := [(8, .ph [1, 2, 3, 4, 0] (.ph [5] (.qc 6 (.ph [7] (.ph [8, 9, 10, 11, 12, 13, 15, 16, 17, 18, 14] (.ph [19] (.qc 20 (.ph [21] (.ph [22] (.fin))))))))))]
def ord30 : Ords := [(6, .ph [0, 1, 2, 4, 5, 6, 3] (.ph [7] (.ph [8] (.fin))))]
def ord31 : Ords := [(10, .ph [0] (.ph [1] (.ph [2, 3, 4, 5, 6, 7, 9, 10, 11, 12, 13, 15, 17, 8, 14, 16] (.ph [18] (.qc 19 (.ph [20] (.ph [21] (.ph [22] (.fin)))))))))]
def ord32 : Ords := [(6, .ph [0, 1, 2, 3, 5, 6, 7, 8, 4] (.ph [9] (.qc 10 (.ph [11] (.fin))))), (10, .ph [0] (.ph [1] (.ph [2, 3, 4, 5, 6, 7, 9, 10, 11, 12, 13, 15, 16, 17, 18, 20, 21, 22, 23, 8, 14, 19] (.ph [24] (.qc 25 (.ph [26] (.ph [27] (.fin))))))))]
def ord33 : Ords := [(10, .ph [0] (.ph [1] (.ph [2, 3, 4, 5, 6, 7] (.ph [8] (.qc 9 (.ph [10] (.ph [11] (.ph [12] (.fin)))))))))]
def ord34 : Ords := [(6, .ph [0, 1, 2, 3, 5, 6, 7, 8, 4] (.ph [9] (.qc 10 (.ph [11] (.fin))))), (10, .ph [0] (.ph [1] (.ph [2, 3, 4, 5, 6, 8, 9, 10, 7] (.ph [11] (.qc 12 (.ph [13] (.ph [14] (.fin))))))))]
def ord35 : Ords := [(6, .ph [0, 1, 2, 4, 5, 6, 3] (.ph [7] (.ph [8] (.fin))))]
def ord37 : Ords := [(5, .ph [0, 1, 2, 3, 4, 6, 7, 8, 9, 5] (.ph [10] (.qc 11 (.ph [12, 13, 14, 15, 16, 17, 19, 20, 21, 22, 18] (.ph [23] (.qc 24 (.ph [25] (.fin))))))))]
def ord42 : Ords := [(2, .ph [0, 1, 2, 4, 5, 6, 3] (.ph [7] (.ph [8] (.ph [9] (.fin))))), (3, .ph [0, 1, 2, 4, 5, 6, 3] (.ph [7] (.ph [8] (.ph [9] (.ph [10] (.ph [11] (.fin))))))), (6, .ph [0, 1, 2, 4, 5, 6, 3] (.ph [7] (.ph [8] (.ph [9] (.ph [10] (.fin))))))]
def ord44 : Ords := [(11, .ph [0, 1, 3] (.alt 2 (.st 4 (.st 5 (.st 6 (.ph [7] (.ph [8] (.st 9 (.fin))))))) 4 (.alt 2 (.st 5 (.st 6 (.ph [7] (.ph [8] (.st 9 (.fin)))))) 5 (.ph [2] (.st 6 (.ph [7] (.ph [8] (.st 9 (.fin))))))))), (19, .ph [0, 2, 5, 7] (.way 1 (.way 3 (.way 4 (.alt 6 (.ph [10] (.st 8 (.st 9 (.st 11 (.ph [12] (.st 13 (.fin))))))) 8 (.ph [6, 10] (.st 9 (.st 11 (.ph [12] (.st 13 (.fin))))))) (.way 6 (.alt 4 (.ph [10] (.st 8 (.st 9 (.st 11 (.ph [12] (.st 13 (.fin))))))) 8 (.st 4 (.ph [10] (.st 9 (.st 11 (.ph [12] (.st 13 (.fin)))))))) (.way 8 (.alt 4 (.ph [6, 10] (.st 9 (.st 11 (.ph [12] (.st 13 (.fin)))))) 6 (.st 4 (.ph [10] (.st 9 (.st 11 (.ph [12] (.st 13 (.fin)))))))) (.non)))) (.way 6 (.alt 3 (.alt 4 (.ph [10] (.st 8 (.st 9 (.st 11 (.ph [12] (.st 13 (.fin))))))) 8 (.st 4 (.ph [10] (.st 9 (.st 11 (.ph [12] (.st 13 (.fin)))))))) 8 (.st 3 (.st 4 (.ph [10] (.st 9 (.st 11 (.ph [12] (.st 13 (.fin))))))))) (.way 8 (.alt 3 (.alt 4 (.ph [6, 10] (.st 9 (.st 11 (.ph [12] (.st 13 (.fin)))))) 6 (.st 4 (.ph [10] (.st 9 (.st 11 (.ph [12] (.st 13 (.fin)))))))) 6 (.st 3 (.st 4 (.ph [10] (.st 9 (.st 11 (.ph [12] (.st 13 (.fin))))))))) (.non)))) (.way 3 (.way 1 (.way 4 (.alt 6 (.ph [10] (.st 8 (.st 9 (.st 11 (.ph [12] (.st 13 (.fin))))))) 8 (.ph [6, 10] (.st 9 (.st 11 (.ph [12] (.st 13 (.fin))))))) (.way 6 (.alt 4 (.ph [10] (.st 8 (.st 9 (.st 11 (.ph [12] (.st 13 (.fin))))))) 8 (.st 4 (.ph [10] (.st 9 (.st 11 (.ph [12] (.st 13 (.fin)))))))) (.way 8 (.alt 4 (.ph [6, 10] (.st 9 (.st 11 (.ph [12] (.st 13 (.fin)))))) 6 (.st 4 (.ph [10] (.st 9 (.st 11 (.ph [12] (.st 13 (.fin)))))))) (.non)))) (.way 6 (.alt 1 (.alt 4 (.ph [10] (.st 8 (.st 9 (.st 11 (.ph [12] (.st 13 (.fin))))))) 8 (.st 4 (.ph [10] (.st 9 (.st 11 (.ph [12] (.st 13 (.fin)))))))) 8 (.ph [1] (.st 4 (.ph [10] (.st 9 (.st 11 (.ph [12] (.st 13 (.fin))))))))) (.way 8 (.ph [1] (.alt 4 (.ph [6, 10] (.st 9 (.st 11 (.ph [12] (.st 13 (.fin)))))) 6 (.st 4 (.ph [10] (.st 9 (.st 11 (.ph [12] (.st 13 (.fin))))))))) (.non)))) (.way 6 (.way 1 (.alt 3 (.alt 4 (.ph [10] (.st 8 (.st 9 (.st 11 (.ph [12] (.st 13 (.fin))))))) 8 (.st 4 (.ph [10] (.st 9 (.st 11 (.ph [12] (.st 13 (.fin)))))))) 8 (.st 3 (.st 4 (.ph [10] (.st 9 (.st 11 (.ph [12] (.st 13 (.fin))))))))) (.way 3 (.alt 1 (.alt 4 (.ph [10] (.st 8 (.st 9 (.st 11 (.ph [12] (.st 13 (.fin))))))) 8 (.st 4 (.ph [10] (.st 9 (.st 11 (.ph [12] (.st 13 (.fin)))))))) 8 (.ph [1] (.st 4 (.ph [10] (.st 9 (.st 11 (.ph [12] (.st 13 (.fin))))))))) (.way 8 (.alt 1 (.st 3 (.st 4 (.ph [10] (.st 9 (.st 11 (.ph [12] (.st 13 (.fin)))))))) 3 (.ph [1] (.st 4 (.ph [10] (.st 9 (.st 11 (.ph [12] (.st 13 (.fin))))))))) (.non)))) (.way 8 (.way 1 (.alt 3 (.alt 4 (.ph [6, 10] (.st 9 (.st 11 (.ph [12] (.st 13 (.fin)))))) 6 (.st 4 (.ph [10] (.st 9 (.st 11 (.ph [12] (.st 13 (.fin)))))))) 6 (.st 3 (.st 4 (.ph [10] (.st 9 (.st 11 (.ph [12] (.st 13 (.fin))))))))) (.way 3 (.ph [1] (.alt 4 (.ph [6, 10] (.st 9 (.st 11 (.ph [12] (.st 13 (.fin)))))) 6 (.st 4 (.ph [10] (.st 9 (.st 11 (.ph [12] (.st 13 (.fin))))))))) (.way 6 (.alt 1 (.st 3 (.st 4 (.ph [10] (.st 9 (.st 11 (.ph [12] (.st 13 (.fin)))))))) 3 (.ph [1] (.st 4 (.ph [10] (.st 9 (.st 11 (.ph [12] (.st 13 (.fin))))))))) (.non)))) (.non))))))]
def ord46 : Ords := [(4, .ph [0, 1, 2, 3, 4] (.ph [5] (.ph [6] (.ph [7, 8, 9, 10, 11, 12] (.ph [13] (.ph [14] (.ph [15] (.fin))))))))]
def ord48 : Ords := [(1, .ph [0, 1, 3, 4] (.qc 2 (.qc 5 (.st 6 (.qc 7 (.ph [8] (.fin)))))))]
def ord52 : Ords := [(1, .ph [0, 2, 4, 6, 9, 11, 14, 16, 1, 3, 5, 7, 10, 12, 15, 17] (.qc 8 (.qc 13 (.qc 18 (.st 19 (.qc 20 (.ph [21] (.fin))))))))]
def ord55 : Ords := [(3, .ph [0, 1, 5, 2, 3, 4] (.ph [6] (.qc 7 (.ph [8] (.fin)))))]
def ord56 : Ords := [(3, .ph [0, 1, 5, 2, 3, 4] (.ph [6] (.qc 7 (.ph [8] (.fin)))))]
def ord59 : Ords := [(1, .ph [0, 2, 5, 7, 1, 3, 6, 8] (.qc 4 (.qc 9 (.st 10 (.qc 11 (.ph [12] (.fin)))))))]
theorem bytes_2 : (Γ.get 2).bytes = 8 := rfl
theorem bytes_3 : (Γ.get 3).bytes = 8 := rfl
theorem bytes_4 : (Γ.get 4).bytes = 1 := rfl
theorem bytes_5 : (Γ.get 5).bytes = 1 := rfl
theorem bytes_9 : (Γ.get 9).bytes = 16 := rfl
theorem bytes_12 : (Γ.get 12).bytes = 8 := rfl
theorem bytes_21 : (Γ.get 21).bytes = 4 := rfl
theorem bytes_22 : (Γ.get 22).bytes = 24 := rfl
theorem bytes_25 : (Γ.get 25).bytes = 8 := rfl
theorem bytes_27 : (Γ.get 27).bytes = 16 := rfl
theorem bytes_28 : (Γ.get 28).bytes = 16 := rfl
theorem bytes_30 : (Γ.get 30).bytes = 24 := rfl
theorem bytes_32 : (Γ.get 32).bytes = 24 := rfl
theorem bytes_33 : (Γ.get 33).bytes = 8 := rfl
theorem bytes_36 : (Γ.get 36).bytes = 16 := rfl
theorem bytes_37 : (Γ.get 37).bytes = 16 := rfl
theorem bytes_38 : (Γ.get 38).bytes = 48 := rfl
theorem bytes_39 : (Γ.get 39).bytes = 48 := rfl
theorem bytes_41 : (Γ.get 41).bytes = 24 := rfl
theorem bytes_42 : (Γ.get 42).bytes = 56 := rfl
theorem bytes_43 : (Γ.get 43).bytes = 56 := rfl
theorem bytes_44 : (Γ.get 44).bytes = 24 := rfl
theorem bytes_45 : (Γ.get 45).bytes = 40 := rfl
theorem bytes_46 : (Γ.get 46).bytes = 40 := rfl
theorem bytes_52 : (Γ.get 52).bytes = 24 := rfl
theorem bytes_56 : (Γ.get 56).bytes = 24 := rfl
theorem bytes_58 : (Γ.get 58).bytes = 24 := rfl
theorem bytes_60 : (Γ.get 60).bytes = 24 := rfl
theorem bytes_67 : (Γ.get 67).bytes = 24 := rfl
theorem bytes_68 : (Γ.get 68).bytes = 24 := rfl
theorem bytes_69 : (Γ.get 69).bytes = 24 := rfl
theorem bytes_70 : (Γ.get 70).bytes = 40 := rfl
theorem bytes_71 : (Γ.get 71).bytes = 40 := rfl
theorem bytes_72 : (Γ.get 72).bytes = 24 := rfl
theorem bytes_73 : (Γ.get 73).bytes = 88 := rfl
theorem bytes_74 : (Γ.get 74).bytes = 88 := rfl
theorem bytes_75 : (Γ.get 75).bytes = 8 := rfl
theorem bytes_76 : (Γ.get 76).bytes = 40 := rfl
theorem bytes_77 : (Γ.get 77).bytes = 40 := rfl
theorem bytes_81 : (Γ.get 81).bytes = 8 := rfl
theorem bytes_84 : (Γ.get 84).bytes = 32 := rfl
theorem bytes_85 : (Γ.get 85).bytes = 32 := rfl
theorem bytes_87 : (Γ.get 87).bytes = 8 := rfl
theorem bytes_95 : (Γ.get 95).bytes = 32 := rfl
theorem bytes_96 : (Γ.get 96).bytes = 32 := rfl
theorem bytes_111 : (Γ.get 111).bytes = 4 := rfl
theorem bytes_115 : (Γ.get 115).bytes = 8 := rfl
end Kx
