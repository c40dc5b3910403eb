/-
  The types and the orders of the regions of this program, as the walk reads them.
  No condition beyond those written in each theorem.
-/
import Derived.Test.YtmngcdfpanhmoaaGreatDoorFC
import Derived.Test.YtmngcdfpanhmoaaGreatDoorProg
open Go Sx Go.Proofs
namespace Kx
def Γ : Ty := [
  (2, ⟨.int .i64, 1, 8, .int .i64 0⟩) /- int64 -/,
  (3, ⟨.int .i64, 1, 8, .int .i64 0⟩) /- int -/,
  (4, ⟨.bool, 1, 1, .lit false⟩) /- bool -/,
  (5, ⟨.int .u8, 1, 1, .int .u8 0⟩) /- uint8 -/,
  (9, ⟨.str, 1, 16, .str []⟩) /- string -/,
  (12, ⟨.int .u64, 1, 8, .int .u64 0⟩) /- uintptr -/,
  (21, ⟨.int .i32, 1, 4, .int .i32 0⟩) /- int32 -/,
  (22, ⟨.slice 3, 1, 24, .nil⟩) /- []int -/,
  (25, ⟨.ptr 75, 1, 8, .null⟩) /- *recordlinkmake.Deck -/,
  (27, ⟨.slice 61, 1, 24, .nil⟩) /- []api.Field -/,
  (28, ⟨.slice 9, 1, 24, .nil⟩) /- []string -/,
  (29, ⟨.slice 126, 1, 24, .nil⟩) /- []api.Pair -/,
  (30, ⟨.struct [(0, 1, 28), (1, 1, 29), (2, 1, 29)], 3, 72, .agg [.nil, .nil, .nil]⟩) /- struct { Titles []string; Nicknames []api.Pair; Streets []ap -/,
  (31, ⟨.struct [(0, 1, 28), (1, 1, 29), (2, 1, 29)], 3, 72, .agg [.nil, .nil, .nil]⟩) /- api.Rules -/,
  (32, ⟨.struct [(0, 1, 27), (1, 3, 31)], 4, 96, .agg [.nil, .nil, .nil, .nil]⟩) /- struct { Fields []api.Field; Rules api.Rules } -/,
  (33, ⟨.struct [(0, 1, 27), (1, 3, 31)], 4, 96, .agg [.nil, .nil, .nil, .nil]⟩) /- api.Schema -/,
  (35, ⟨.slice 63, 1, 24, .nil⟩) /- []api.Parameters -/,
  (37, ⟨.int .u64, 1, 8, .int .u64 0⟩) /- uint64 -/,
  (38, ⟨.struct [(0, 1, 37), (1, 1, 37)], 2, 16, .agg [.int .u64 0, .int .u64 0]⟩) /- struct { A uint64; B uint64 } -/,
  (39, ⟨.struct [(0, 1, 37), (1, 1, 37)], 2, 16, .agg [.int .u64 0, .int .u64 0]⟩) /- api.Key -/,
  (41, ⟨.slice 65, 1, 24, .nil⟩) /- []api.Record -/,
  (43, ⟨.int .i64, 1, 8, .int .i64 0⟩) /- api.Errno -/,
  (49, ⟨.slice 55, 1, 24, .nil⟩) /- []api.Encoded -/,
  (53, ⟨.slice 105, 1, 24, .nil⟩) /- []api.Bits -/,
  (54, ⟨.struct [(0, 1, 3), (1, 1, 3), (2, 1, 53)], 3, 40, .agg [.int .i64 0, .int .i64 0, .nil]⟩) /- struct { ID int; Version int; Fields []api.Bits } -/,
  (55, ⟨.struct [(0, 1, 3), (1, 1, 3), (2, 1, 53)], 3, 40, .agg [.int .i64 0, .int .i64 0, .nil]⟩) /- api.Encoded -/,
  (60, ⟨.struct [(0, 1, 9), (1, 1, 3)], 2, 24, .agg [.str [], .int .i64 0]⟩) /- struct { Name string; Kind int } -/,
  (61, ⟨.struct [(0, 1, 9), (1, 1, 3)], 2, 24, .agg [.str [], .int .i64 0]⟩) /- api.Field -/,
  (62, ⟨.struct [(0, 1, 3), (1, 1, 3), (2, 1, 3)], 3, 24, .agg [.int .i64 0, .int .i64 0, .int .i64 0]⟩) /- struct { Length int; Hashes int; Salt int } -/,
  (63, ⟨.struct [(0, 1, 3), (1, 1, 3), (2, 1, 3)], 3, 24, .agg [.int .i64 0, .int .i64 0, .int .i64 0]⟩) /- api.Parameters -/,
  (64, ⟨.struct [(0, 1, 3), (1, 1, 3), (2, 1, 28)], 3, 40, .agg [.int .i64 0, .int .i64 0, .nil]⟩) /- struct { ID int; Version int; Values []string } -/,
  (65, ⟨.struct [(0, 1, 3), (1, 1, 3), (2, 1, 28)], 3, 40, .agg [.int .i64 0, .int .i64 0, .nil]⟩) /- api.Record -/,
  (74, ⟨.struct [(0, 1, 22), (1, 1, 3), (2, 1, 37)], 3, 40, .agg [.nil, .int .i64 0, .int .u64 0]⟩) /- struct { list []int; at int; state uint64 } -/,
  (75, ⟨.struct [(0, 1, 22), (1, 1, 3), (2, 1, 37)], 3, 40, .agg [.nil, .int .i64 0, .int .u64 0]⟩) /- recordlinkmake.Deck -/,
  (82, ⟨.ptr 85, 1, 8, .null⟩) /- *strings.Builder -/,
  (83, ⟨.slice 5, 1, 24, .nil⟩) /- []uint8 -/,
  (84, ⟨.struct [(0, 1, 82), (1, 1, 83)], 2, 32, .agg [.null, .nil]⟩) /- struct { addr *strings.Builder; buf []uint8 } -/,
  (85, ⟨.struct [(0, 1, 82), (1, 1, 83)], 2, 32, .agg [.null, .nil]⟩) /- strings.Builder -/,
  (95, ⟨.func, 1, 8, .nilfn⟩) /- iter.Seq2[string,string] -/,
  (103, ⟨.slice 37, 1, 24, .nil⟩) /- []uint64 -/,
  (104, ⟨.struct [(0, 1, 3), (1, 1, 103)], 2, 32, .agg [.int .i64 0, .nil]⟩) /- struct { Length int; Words []uint64 } -/,
  (105, ⟨.struct [(0, 1, 3), (1, 1, 103)], 2, 32, .agg [.int .i64 0, .nil]⟩) /- api.Bits -/,
  (125, ⟨.struct [(0, 1, 9), (1, 1, 9)], 2, 32, .agg [.str [], .str []]⟩) /- struct { From string; To string } -/,
  (126, ⟨.struct [(0, 1, 9), (1, 1, 9)], 2, 32, .agg [.str [], .str []]⟩) /- api.Pair -/,
  (127, ⟨.int .u64, 1, 8, .int .u64 0⟩) /- uint -/,
  (131, ⟨.ptr 5, 1, 8, .null⟩) /- *uint8 -/,
  (150, ⟨.func, 1, 8, .nilfn⟩) /- func(api.Rules, string) (string, api.Errno) -/,
  (151, ⟨.func, 1, 8, .nilfn⟩) /- func(api.Rules, string) bool -/,
  (152, ⟨.func, 1, 8, .nilfn⟩) /- func(string) []string -/,
  (153, ⟨.struct [(0, 1, 9), (1, 1, 150), (2, 1, 151), (3, 1, 152)], 4, 40, .agg [.str [], .nilfn, .nilfn, .nilfn]⟩) /- struct { word string; normalise func(api.Rules, string) (str -/,
  (154, ⟨.struct [(0, 1, 9), (1, 1, 150), (2, 1, 151), (3, 1, 152)], 4, 40, .agg [.str [], .nilfn, .nilfn, .nilfn]⟩) /- schema.kind -/,
  (159, ⟨.arr 6 3, 6, 48, .vec 6 fun _ => .int .i64 0⟩) /- [6]int -/,
  (167, ⟨.struct [(0, 1, 3), (1, 1, 3), (2, 1, 3)], 3, 24, .agg [.int .i64 0, .int .i64 0, .int .i64 0]⟩) /- struct { Year int; Month int; Day int } -/,
  (168, ⟨.struct [(0, 1, 3), (1, 1, 3), (2, 1, 3)], 3, 24, .agg [.int .i64 0, .int .i64 0, .int .i64 0]⟩) /- api.Date -/,
  (181, ⟨.struct [(0, 1, 3), (1, 1, 4), (2, 1, 9)], 3, 32, .agg [.int .i64 0, .lit false, .str []]⟩) /- struct { field int; salted bool; salt string } -/,
  (182, ⟨.struct [(0, 1, 3), (1, 1, 4), (2, 1, 9)], 3, 32, .agg [.int .i64 0, .lit false, .str []]⟩) /- encode.options -/,
  (190, ⟨.int .i64, 1, 8, .int .i64 0⟩) /- strconv.Error -/,
  (197, ⟨.arr 5 154, 20, 200, .agg [.str [], .nilfn, .nilfn, .nilfn, .str [], .nilfn, .nilfn, .nilfn, .str [], .nilfn, .nilfn, .nilfn, .str [], .nilfn, .nilfn, .nilfn, .str [], .nilfn, .nilfn, .nilfn]⟩) /- [5]schema.kind -/,
  (210, ⟨.arr 24 5, 24, 24, .vec 24 fun _ => .int .u8 0⟩) /- [24]uint8 -/,
  (214, ⟨.struct [(0, 1, 37), (1, 1, 37), (2, 1, 37), (3, 1, 37)], 4, 32, .agg [.int .u64 0, .int .u64 0, .int .u64 0, .int .u64 0]⟩) /- struct { a uint64; b uint64; c uint64; d uint64 } -/,
  (215, ⟨.struct [(0, 1, 37), (1, 1, 37), (2, 1, 37), (3, 1, 37)], 4, 32, .agg [.int .u64 0, .int .u64 0, .int .u64 0, .int .u64 0]⟩) /- siphash.state -/,
  (218, ⟨.int .u32, 1, 4, .int .u32 0⟩) /- uint32 -/,
  (251, ⟨.arr 20 37, 20, 160, .vec 20 fun _ => .int .u64 0⟩) /- [20]uint64 -/,
  (252, ⟨.arr 65 5, 65, 65, .vec 65 fun _ => .int .u8 0⟩) /- [65]uint8 -/,
  (254, ⟨.ptr 215, 1, 8, .null⟩) /- *siphash.state -/,
  (259, ⟨.ptr 261, 1, 8, .null⟩) /- *errors.errorString -/,
  (260, ⟨.struct [(0, 1, 9)], 1, 16, .agg [.str []]⟩) /- struct { s string } -/,
  (261, ⟨.struct [(0, 1, 9)], 1, 16, .agg [.str []]⟩) /- errors.errorString -/,
  (269, ⟨.struct [(0, 1, 5), (1, 1, 5)], 2, 2, .agg [.int .u8 0, .int .u8 0]⟩) /- struct { lo uint8; hi uint8 } -/,
  (272, ⟨.arr 64 9, 64, 1024, .vec 64 fun _ => .str []⟩) /- [64]string -/,
  (279, ⟨.func, 1, 8, .nilfn⟩) /- iter.Seq[string] -/,
  (286, ⟨.arr 32 5, 32, 32, .vec 32 fun _ => .int .u8 0⟩) /- [32]uint8 -/,
  (287, ⟨.arr 64 5, 64, 64, .vec 64 fun _ => .int .u8 0⟩) /- [64]uint8 -/,
  (288, ⟨.slice 290, 1, 24, .nil⟩) /- []strings.span -/,
  (289, ⟨.struct [(0, 1, 3), (1, 1, 3)], 2, 16, .agg [.int .i64 0, .int .i64 0]⟩) /- struct { start int; end int } -/,
  (290, ⟨.struct [(0, 1, 3), (1, 1, 3)], 2, 16, .agg [.int .i64 0, .int .i64 0]⟩) /- strings.span -/,
  (294, ⟨.arr 12 3, 12, 96, .vec 12 fun _ => .int .i64 0⟩) /- [12]int -/,
  (296, ⟨.int .i64, 1, 8, .int .i64 0⟩) /- slices.sortedHint -/,
  (302, ⟨.int .u64, 1, 8, .int .u64 0⟩) /- slices.xorshift -/,
  (305, ⟨.ptr 3, 1, 8, .null⟩) /- *int -/,
  (307, ⟨.ptr 302, 1, 8, .null⟩) /- *slices.xorshift -/]
theorem hΓ : TyOK Tryz.prog Γ := tyOK (by decide +kernel)
theorem hm : Tryz.prog.follows .mixedOrders = true := by decide +kernel
def ord3 : Ords := [(5, .ph [0, 1, 5, 7, 2, 3] (.way 4 (.way 6 (.ph [8] (.alt 9 (.st 10 (.ph [11] (.st 12 (.ph [13] (.fin))))) 10 (.st 9 (.ph [11] (.st 12 (.ph [13] (.fin))))))) (.way 8 (.alt 6 (.alt 9 (.st 10 (.ph [11] (.st 12 (.ph [13] (.fin))))) 10 (.st 9 (.ph [11] (.st 12 (.ph [13] (.fin)))))) 10 (.st 6 (.st 9 (.ph [11] (.st 12 (.ph [13] (.fin))))))) (.way 10 (.alt 6 (.ph [8] (.st 9 (.ph [11] (.st 12 (.ph [13] (.fin)))))) 8 (.st 6 (.st 9 (.ph [11] (.st 12 (.ph [13] (.fin))))))) (.non)))) (.way 8 (.alt 4 (.alt 6 (.alt 9 (.st 10 (.ph [11] (.st 12 (.ph [13] (.fin))))) 10 (.st 9 (.ph [11] (.st 12 (.ph [13] (.fin)))))) 10 (.st 6 (.st 9 (.ph [11] (.st 12 (.ph [13] (.fin))))))) 10 (.st 4 (.st 6 (.st 9 (.ph [11] (.st 12 (.ph [13] (.fin)))))))) (.way 10 (.alt 4 (.alt 6 (.ph [8] (.st 9 (.ph [11] (.st 12 (.ph [13] (.fin)))))) 8 (.st 6 (.st 9 (.ph [11] (.st 12 (.ph [13] (.fin))))))) 8 (.st 4 (.st 6 (.st 9 (.ph [11] (.st 12 (.ph [13] (.fin)))))))) (.non))))), (10, .ph [1, 2, 3] (.ph [0] (.qc 4 (.ph [5, 6, 7, 8] (.ph [9] (.ph [10] (.ph [11] (.fin)))))))), (20, .ph [0] (.ph [1] (.ph [2] (.ph [3] (.ph [4] (.ph [5] (.ph [6, 8, 9, 10, 7] (.ph [11] (.qc 12 (.ph [13] (.ph [14] (.fin))))))))))))]
def ord7 : Ords := [(10, .ph [0, 2, 3, 4, 6, 1] (.ph [5] (.ph [7] (.st 8 (.st 9 (.ph [10] (.st 11 (.fin))))))))]
def ord13 : Ords := [(11, .ph [0] (.alt 1 (.st 2 (.st 3 (.st 4 (.fin)))) 2 (.ph [1] (.st 3 (.st 4 (.fin)))))), (12, .ph [0] (.alt 1 (.ph [2] (.st 3 (.st 4 (.st 5 (.fin))))) 3 (.ph [1] (.ph [2] (.st 4 (.st 5 (.fin))))))), (15, .ph [2, 0] (.alt 1 (.st 3 (.st 4 (.st 5 (.fin)))) 3 (.ph [1] (.st 4 (.st 5 (.fin)))))), (16, .ph [6, 7, 0, 1] (.alt 2 (.alt 3 (.alt 4 (.ph [5, 8] (.st 9 (.st 10 (.fin)))) 9 (.ph [4] (.ph [5] (.ph [8] (.st 10 (.fin)))))) 4 (.ph [5, 8] (.st 3 (.st 9 (.st 10 (.fin)))))) 4 (.ph [5, 8] (.st 2 (.st 3 (.st 9 (.st 10 (.fin)))))))), (17, .ph [0] (.alt 1 (.st 2 (.st 3 (.st 4 (.fin)))) 2 (.ph [1] (.st 3 (.st 4 (.fin))))))]
def ord15 : Ords := [(3, .ph [0, 3, 1, 4] (.qc 2 (.qc 5 (.st 6 (.ph [7] (.fin))))))]
def ord20 : Ords := [(7, .ph [0, 2, 4, 1] (.ph [3] (.ph [5] (.ph [6] (.qc 7 (.st 8 (.st 9 (.ph [10] (.fin)))))))))]
def ord26 : Ords := [(2, .ph [0, 1, 2, 4, 5, 6, 3] (.ph [7] (.ph [8] (.ph [9] (.fin))))), (3, .ph [0, 1, 2, 4, 5, 6, 3] (.ph [7] (.ph [8] (.ph [9] (.ph [10] (.ph [11] (.fin))))))), (6, .ph [0, 1, 2, 4, 5, 6, 3] (.ph [7] (.ph [8] (.ph [9] (.ph [10] (.fin))))))]
def ord28 : Ords := [(12, .ph [0] (.ph [1] (.ph [2, 3, 4, 5, 6, 7, 9, 8] (.ph [10] (.ph [11] (.ph [12] (.fin)))))))]
def ord30 : Ords := [(1, .ph [0, 3, 7, 1, 4, 8] (.qc 2 (.qc 5 (.st 6 (.st 9 (.qc 10 (.ph [11] (.fin))))))))]
def ord33 : Ords := [(1, .ph [0, 1, 2, 5, 6, 7, 3] (.alt 4 (.ph [8] (.ph [9] (.st 10 (.ph [11] (.fin))))) 8 (.ph [9] (.st 4 (.st 10 (.ph [11] (.fin)))))))]
def ord36 : Ords := [(4, .ph [0, 1, 2, 3, 4] (.ph [5] (.ph [6] (.qc 7 (.ph [8] (.ph [9] (.fin))))))), (6, .ph [1, 2, 3, 0] (.qw 4 (.ph [5, 6, 7] (.st 8 (.st 9 (.ph [10] (.fin))))) (.way 8 (.qc 4 (.ph [5, 6, 7] (.st 9 (.ph [10] (.fin))))) (.non)))), (11, .ph [0] (.ph [1] (.ph [2] (.ph [3, 4, 5, 6, 7, 8, 9, 11, 10] (.ph [12] (.ph [13] (.ph [14] (.ph [15] (.fin)))))))))]
def ord48 : Ords := [(10, .ph [0, 2, 3, 4, 6, 7, 11, 1] (.ph [5] (.ph [8] (.ph [9] (.ph [10] (.ph [12] (.ph [13] (.st 14 (.fin)))))))))]
def ord51 : Ords := [(1, .ph [0, 2, 5, 8, 12, 14, 1, 3, 6, 7, 9, 10, 13, 15] (.qc 4 (.qc 11 (.qc 16 (.st 17 (.qc 18 (.ph [19] (.fin))))))))]
def ord56 : Ords := [(4, .ph [0, 2] (.qc 1 (.qc 3 (.ph [4] (.ph [5] (.fin))))))]
def ord63 : Ords := [(12, .ph [1, 2, 3, 4, 0] (.ph [5] (.qc 6 (.ph [7, 8, 9] (.ph [10] (.ph [11] (.fin)))))))]
def ord79 : Ords := [(6, .ph [1, 2, 4, 0] (.ph [3] (.ph [5] (.ph [6] (.qc 7 (.ph [8, 9, 10] (.ph [11] (.ph [12] (.fin))))))))), (9, .ph [4, 0, 1] (.ph [2] (.qc 3 (.qc 5 (.ph [6] (.ph [7] (.st 8 (.ph [9] (.fin)))))))))]
def ord93 : Ords := [(6, .ph [1, 3, 2, 4, 5, 6] (.qc 0 (.ph [7] (.st 8 (.ph [9] (.fin))))))]
def ord100 : Ords := [(4, .ph [0] (.ph [1] (.qc 2 (.ph [3] (.ph [4] (.ph [5] (.ph [6] (.qc 7 (.ph [8] (.ph [9] (.ph [10] (.ph [11] (.ph [12] (.ph [13, 14, 15, 16, 17, 18, 20, 19] (.ph [21] (.ph [22] (.ph [23] (.ph [24] (.ph [25, 26] (.ph [27] (.ph [28] (.qc 29 (.ph [30] (.ph [31] (.fin)))))))))))))))))))))))))]
def ord104 : Ords := [(1, .ph [0, 4, 9, 12, 1, 2, 5, 6, 10, 13] (.qc 3 (.qc 7 (.ph [8] (.qc 11 (.qc 14 (.ph [15] (.ph [16] (.ph [17] (.fin))))))))))]
def ord107 : Ords := [(12, .ph [0, 2, 6, 1, 3, 4, 5] (.ph [7] (.ph [8] (.fin))))]
def ord121 : Ords := [(14, .ph [0, 2, 3, 6, 7, 8] (.ph [1] (.ph [4] (.ph [5] (.ph [9] (.ph [10] (.st 11 (.fin))))))))]
def ord122 : Ords := [(1, .ph [1, 0] (.ph [2] (.qc 3 (.ph [4] (.qc 5 (.st 6 (.fin)))))))]
def ord137 : Ords := [(3, .ph [0, 2, 3, 4] (.way 1 (.alt 5 (.ph [6] (.st 7 (.st 8 (.fin)))) 7 (.st 5 (.ph [6] (.st 8 (.fin))))) (.way 5 (.ph [1, 6] (.st 7 (.st 8 (.fin)))) (.way 7 (.alt 1 (.st 5 (.ph [6] (.st 8 (.fin)))) 5 (.ph [1] (.ph [6] (.st 8 (.fin))))) (.non))))), (7, .ph [0, 2, 3, 4, 5, 7, 6, 8, 9] (.alt 1 (.st 10 (.ph [11] (.st 12 (.fin)))) 10 (.ph [1] (.ph [11] (.st 12 (.fin))))))]
def ord147 : Ords := [(13, .ph [0, 2, 4, 1] (.ph [3] (.ph [5] (.ph [6] (.ph [7] (.qc 8 (.fin)))))))]
def ord150 : Ords := [(11, .ph [0, 1, 2, 4, 5, 6, 3] (.ph [7] (.qc 8 (.ph [9] (.st 10 (.fin))))))]
def ord151 : Ords := [(4, .ph [0, 1, 2, 3] (.ph [4] (.ph [5] (.qc 6 (.ph [7] (.ph [8] (.st 9 (.ph [10] (.fin))))))))), (6, .ph [0, 1, 2, 3] (.ph [4] (.ph [5] (.qc 6 (.ph [7] (.ph [8] (.st 9 (.ph [10] (.fin))))))))), (8, .ph [0, 1, 2, 3] (.ph [4] (.ph [5] (.qc 6 (.ph [7] (.ph [8] (.st 9 (.ph [10] (.fin)))))))))]
def ord152 : Ords := [(3, .ph [0, 4, 9, 13, 1, 2, 5, 6, 10, 14] (.qc 3 (.qc 7 (.ph [8] (.qc 11 (.ph [12] (.qc 15 (.ph [16] (.ph [17] (.ph [18] (.fin)))))))))))]
def ord159 : Ords := [(2, .ph [0, 1, 2, 4, 5, 6, 3] (.ph [7] (.ph [8] (.ph [9] (.ph [10] (.st 11 (.fin))))))), (3, .ph [0, 1, 2, 3, 6, 7, 8, 4, 9] (.qc 5 (.ph [10] (.ph [11] (.ph [12] (.st 13 (.fin))))))), (5, .ph [0, 1, 2, 4, 5, 6, 3] (.ph [7] (.ph [8] (.ph [9] (.ph [10] (.st 11 (.fin))))))), (6, .ph [0, 1, 2, 3, 6, 7, 8, 4, 9] (.qc 5 (.ph [10] (.ph [11] (.ph [12] (.st 13 (.fin))))))), (7, .ph [0, 1, 2, 4, 5, 6, 3] (.ph [7] (.ph [8] (.ph [9] (.ph [10] (.st 11 (.fin))))))), (8, .ph [0, 1, 2, 3, 6, 7, 8, 4, 9] (.qc 5 (.ph [10] (.ph [11] (.ph [12] (.st 13 (.fin))))))), (9, .ph [0, 1, 2, 4, 5, 6, 3] (.ph [7] (.ph [8] (.ph [9] (.ph [10] (.st 11 (.fin))))))), (10, .ph [0, 1, 2, 3, 6, 7, 8, 4, 9] (.qc 5 (.ph [10] (.ph [11] (.ph [12] (.st 13 (.fin)))))))]
def ord170 : Ords := [(4, .ph [0, 5, 1] (.way 2 (.ph [3] (.ph [4] (.qc 6 (.ph [7] (.ph [8] (.fin)))))) (.way 3 (.alt 2 (.ph [4] (.qc 6 (.ph [7] (.ph [8] (.fin))))) 4 (.way 2 (.qc 6 (.ph [7] (.ph [8] (.fin)))) (.qw 6 (.st 2 (.ph [7] (.ph [8] (.fin)))) (.non)))) (.way 4 (.alt 2 (.ph [3] (.qc 6 (.ph [7] (.ph [8] (.fin))))) 3 (.way 2 (.qc 6 (.ph [7] (.ph [8] (.fin)))) (.qw 6 (.st 2 (.ph [7] (.ph [8] (.fin)))) (.non)))) (.non)))))]
def ord171 : Ords := [(1, .ph [1, 5, 0, 4] (.alt 2 (.qw 3 (.st 6 (.qc 7 (.ph [8] (.st 9 (.fin))))) (.way 6 (.qc 3 (.qc 7 (.ph [8] (.st 9 (.fin))))) (.non))) 6 (.st 2 (.qc 3 (.qc 7 (.ph [8] (.st 9 (.fin))))))))]
def ord185 : Ords := [(3, .ph [0, 1, 2, 3] (.ph [4] (.ph [5] (.qc 6 (.ph [7] (.ph [8] (.st 9 (.ph [10] (.fin)))))))))]
def ord198 : Ords := [(4, .ph [0, 1, 2, 4, 5, 6, 7, 3] (.ph [8] (.ph [9] (.fin))))]
def ord210 : Ords := [(1, .ph [0] (.ph [1] (.ph [2] (.ph [3] (.ph [4] (.ph [5] (.ph [6] (.ph [7] (.ph [8] (.ph [9] (.ph [10] (.ph [11] (.ph [12] (.ph [13] (.ph [14] (.ph [15] (.ph [16] (.ph [17] (.ph [18] (.ph [19] (.ph [20] (.ph [21] (.ph [22] (.ph [23, 24, 26, 28, 25, 27] (.ph [29] (.qc 30 (.ph [31] (.ph [32] (.ph [33] (.fin))))))))))))))))))))))))))))))]
def ord225 : Ords := [(1, .ph [1, 4, 0, 5, 6] (.alt 2 (.qw 3 (.ph [7, 8] (.st 9 (.st 10 (.fin)))) (.way 9 (.qc 3 (.ph [7] (.ph [8] (.st 10 (.fin))))) (.non))) 9 (.st 2 (.qc 3 (.ph [7] (.ph [8] (.st 10 (.fin)))))))), (2, .ph [1, 4, 0, 5, 6, 7] (.alt 2 (.qw 3 (.ph [8, 9, 10] (.st 11 (.st 12 (.fin)))) (.way 11 (.qc 3 (.ph [8] (.ph [9] (.ph [10] (.st 12 (.fin)))))) (.non))) 11 (.st 2 (.qc 3 (.ph [8] (.ph [9] (.ph [10] (.st 12 (.fin)))))))))]
def ord234 : Ords := [(3, .ph [0, 1, 2, 3] (.ph [4] (.ph [5] (.qc 6 (.ph [7] (.ph [8] (.st 9 (.ph [10] (.fin))))))))), (5, .ph [0, 1, 2, 3] (.ph [4] (.ph [5] (.qc 6 (.ph [7] (.ph [8] (.st 9 (.ph [10] (.fin))))))))), (7, .ph [0, 1, 2, 3] (.ph [4] (.ph [5] (.qc 6 (.ph [7] (.ph [8] (.st 9 (.ph [10] (.fin)))))))))]
def ord235 : Ords := [(3, .ph [0, 3, 6, 1] (.way 2 (.ph [4] (.alt 5 (.ph [7] (.st 8 (.st 9 (.ph [10] (.ph [11] (.fin)))))) 7 (.st 5 (.st 8 (.st 9 (.ph [10] (.ph [11] (.fin)))))))) (.way 4 (.alt 2 (.alt 5 (.ph [7] (.st 8 (.st 9 (.ph [10] (.ph [11] (.fin)))))) 7 (.st 5 (.st 8 (.st 9 (.ph [10] (.ph [11] (.fin))))))) 7 (.st 2 (.st 5 (.st 8 (.st 9 (.ph [10] (.ph [11] (.fin)))))))) (.way 7 (.alt 2 (.ph [4] (.st 5 (.st 8 (.st 9 (.ph [10] (.ph [11] (.fin))))))) 4 (.st 2 (.st 5 (.st 8 (.st 9 (.ph [10] (.ph [11] (.fin)))))))) (.non)))))]
def ord252 : Ords := [(1, .ph [4, 0] (.way 1 (.way 2 (.ph [3] (.alt 5 (.ph [6] (.st 7 (.st 8 (.fin)))) 7 (.ph [5] (.ph [6] (.st 8 (.fin)))))) (.way 5 (.alt 2 (.ph [3, 6] (.st 7 (.st 8 (.fin)))) 7 (.ph [2] (.ph [3] (.ph [6] (.st 8 (.fin)))))) (.way 7 (.ph [2, 3] (.ph [5] (.ph [6] (.st 8 (.fin))))) (.non)))) (.way 2 (.way 1 (.ph [3] (.alt 5 (.ph [6] (.st 7 (.st 8 (.fin)))) 7 (.ph [5] (.ph [6] (.st 8 (.fin)))))) (.way 5 (.alt 1 (.ph [3, 6] (.st 7 (.st 8 (.fin)))) 7 (.ph [1] (.ph [3] (.ph [6] (.st 8 (.fin)))))) (.way 7 (.ph [1, 3] (.ph [5] (.ph [6] (.st 8 (.fin))))) (.non)))) (.way 5 (.way 1 (.alt 2 (.ph [3, 6] (.st 7 (.st 8 (.fin)))) 7 (.ph [2] (.ph [3] (.ph [6] (.st 8 (.fin)))))) (.way 2 (.alt 1 (.ph [3, 6] (.st 7 (.st 8 (.fin)))) 7 (.ph [1] (.ph [3] (.ph [6] (.st 8 (.fin)))))) (.way 7 (.ph [1] (.ph [2] (.ph [3] (.ph [6] (.st 8 (.fin)))))) (.non)))) (.way 7 (.ph [1, 2, 3] (.ph [5] (.ph [6] (.st 8 (.fin))))) (.non))))))]
def ord262 : Ords := [(1, .ph [0] (.ph [1] (.ph [2] (.ph [3] (.ph [4] (.ph [5] (.ph [6] (.ph [7] (.ph [8] (.ph [9] (.ph [10] (.ph [11] (.ph [12] (.ph [13] (.ph [14] (.ph [15] (.ph [16] (.ph [17] (.ph [18] (.ph [19] (.ph [20] (.ph [21] (.ph [22] (.ph [23, 24, 26, 28, 25, 27] (.ph [29] (.qc 30 (.ph [31] (.ph [32] (.ph [33] (.fin))))))))))))))))))))))))))))))]
theorem bytes_2 : (Γ.get 2).bytes = 8 := rfl
theorem bytes_3 : (Γ.get 3).bytes = 8 := rfl
theorem bytes_4 : (Γ.get 4).bytes = 1 := rfl
theorem bytes_5 : (Γ.get 5).bytes = 1 := rfl
theorem bytes_9 : (Γ.get 9).bytes = 16 := rfl
theorem bytes_12 : (Γ.get 12).bytes = 8 := rfl
theorem bytes_21 : (Γ.get 21).bytes = 4 := rfl
theorem bytes_22 : (Γ.get 22).bytes = 24 := rfl
theorem bytes_25 : (Γ.get 25).bytes = 8 := rfl
theorem bytes_27 : (Γ.get 27).bytes = 24 := rfl
theorem bytes_28 : (Γ.get 28).bytes = 24 := rfl
theorem bytes_29 : (Γ.get 29).bytes = 24 := rfl
theorem bytes_30 : (Γ.get 30).bytes = 72 := rfl
theorem bytes_31 : (Γ.get 31).bytes = 72 := rfl
theorem bytes_32 : (Γ.get 32).bytes = 96 := rfl
theorem bytes_33 : (Γ.get 33).bytes = 96 := rfl
theorem bytes_35 : (Γ.get 35).bytes = 24 := rfl
theorem bytes_37 : (Γ.get 37).bytes = 8 := rfl
theorem bytes_38 : (Γ.get 38).bytes = 16 := rfl
theorem bytes_39 : (Γ.get 39).bytes = 16 := rfl
theorem bytes_41 : (Γ.get 41).bytes = 24 := rfl
theorem bytes_43 : (Γ.get 43).bytes = 8 := rfl
theorem bytes_49 : (Γ.get 49).bytes = 24 := rfl
theorem bytes_53 : (Γ.get 53).bytes = 24 := rfl
theorem bytes_54 : (Γ.get 54).bytes = 40 := rfl
theorem bytes_55 : (Γ.get 55).bytes = 40 := rfl
theorem bytes_60 : (Γ.get 60).bytes = 24 := rfl
theorem bytes_61 : (Γ.get 61).bytes = 24 := rfl
theorem bytes_62 : (Γ.get 62).bytes = 24 := rfl
theorem bytes_63 : (Γ.get 63).bytes = 24 := rfl
theorem bytes_64 : (Γ.get 64).bytes = 40 := rfl
theorem bytes_65 : (Γ.get 65).bytes = 40 := rfl
theorem bytes_74 : (Γ.get 74).bytes = 40 := rfl
theorem bytes_75 : (Γ.get 75).bytes = 40 := rfl
theorem bytes_82 : (Γ.get 82).bytes = 8 := rfl
theorem bytes_83 : (Γ.get 83).bytes = 24 := rfl
theorem bytes_84 : (Γ.get 84).bytes = 32 := rfl
theorem bytes_85 : (Γ.get 85).bytes = 32 := rfl
theorem bytes_95 : (Γ.get 95).bytes = 8 := rfl
theorem bytes_103 : (Γ.get 103).bytes = 24 := rfl
theorem bytes_104 : (Γ.get 104).bytes = 32 := rfl
theorem bytes_105 : (Γ.get 105).bytes = 32 := rfl
theorem bytes_125 : (Γ.get 125).bytes = 32 := rfl
theorem bytes_126 : (Γ.get 126).bytes = 32 := rfl
theorem bytes_127 : (Γ.get 127).bytes = 8 := rfl
theorem bytes_131 : (Γ.get 131).bytes = 8 := rfl
theorem bytes_150 : (Γ.get 150).bytes = 8 := rfl
theorem bytes_151 : (Γ.get 151).bytes = 8 := rfl
theorem bytes_152 : (Γ.get 152).bytes = 8 := rfl
theorem bytes_153 : (Γ.get 153).bytes = 40 := rfl
theorem bytes_154 : (Γ.get 154).bytes = 40 := rfl
theorem bytes_159 : (Γ.get 159).bytes = 48 := rfl
theorem bytes_167 : (Γ.get 167).bytes = 24 := rfl
theorem bytes_168 : (Γ.get 168).bytes = 24 := rfl
theorem bytes_181 : (Γ.get 181).bytes = 32 := rfl
theorem bytes_182 : (Γ.get 182).bytes = 32 := rfl
theorem bytes_190 : (Γ.get 190).bytes = 8 := rfl
theorem bytes_197 : (Γ.get 197).bytes = 200 := rfl
theorem bytes_210 : (Γ.get 210).bytes = 24 := rfl
theorem bytes_214 : (Γ.get 214).bytes = 32 := rfl
theorem bytes_215 : (Γ.get 215).bytes = 32 := rfl
theorem bytes_218 : (Γ.get 218).bytes = 4 := rfl
theorem bytes_251 : (Γ.get 251).bytes = 160 := rfl
theorem bytes_252 : (Γ.get 252).bytes = 65 := rfl
theorem bytes_254 : (Γ.get 254).bytes = 8 := rfl
theorem bytes_259 : (Γ.get 259).bytes = 8 := rfl
theorem bytes_260 : (Γ.get 260).bytes = 16 := rfl
theorem bytes_261 : (Γ.get 261).bytes = 16 := rfl
theorem bytes_269 : (Γ.get 269).bytes = 2 := rfl
theorem bytes_272 : (Γ.get 272).bytes = 1024 := rfl
theorem bytes_279 : (Γ.get 279).bytes = 8 := rfl
theorem bytes_286 : (Γ.get 286).bytes = 32 := rfl
theorem bytes_287 : (Γ.get 287).bytes = 64 := rfl
theorem bytes_288 : (Γ.get 288).bytes = 24 := rfl
theorem bytes_289 : (Γ.get 289).bytes = 16 := rfl
theorem bytes_290 : (Γ.get 290).bytes = 16 := rfl
theorem bytes_294 : (Γ.get 294).bytes = 96 := rfl
theorem bytes_296 : (Γ.get 296).bytes = 8 := rfl
theorem bytes_302 : (Γ.get 302).bytes = 8 := rfl
theorem bytes_305 : (Γ.get 305).bytes = 8 := rfl
theorem bytes_307 : (Γ.get 307).bytes = 8 := rfl
end Kx
/-
  The deck: New, Word, Next; Few.
-/
open Go Sx Go.Proofs
set_option linter.unusedSimpArgs false
set_option linter.unusedVariables false
namespace Kx
/-- A deck: its list, where it stands, its state. -/
structure Dk where
  l : List Int
  at_ : Int
  st : Int
  h0 : 0 ≤ at_
  hl : l.length ≤ 400
def Dk.ls (d : Dk) : List D := [ints d.l, i64 d.at_, u64 d.st]
def Dk.b (d : Dk) : D := .fbox d.ls
theorem few_ct (l : List Int) : Ct Tryz.prog 5 [ints l] fun r outs => r = .bool (decide (l.length ≤ 400)) ∧ outs = [] := by
  refine .det (.of_W (fn := Tryz.f5) hΓ hm Tryz.func5 [] [] (by kernel_rfl) (Step.out ?_))
  repeat' first
    | (refine Step.mk ?_; conv => whnf)
    | with_reducible trivial
    | (refine Two.mk (Step.out ?_) (Step.out ?_))
  all_goals first
    | trivial
    | exact hb h
    | with_reducible rfl
    | with_reducible exact same_rfl
    | omega
    | ((simp only [decide_eq_decide]; omega))
theorem new_ct (l : List Int) (hl : l.length ≤ 400) : Ct Tryz.prog 6 [ints l] fun r outs => ∃ d : Dk, d.l = l ∧ r = d.b ∧ outs = [] := by
  refine .some (.of_W (fn := Tryz.f6) hΓ hm Tryz.func6 [] [] (by kernel_rfl) (Step.out ?_))
  repeat' first
    | (refine Step.mk ?_; conv => whnf)
  refine Lf.by ⟨l, 0, 11400714819323198485, by omega, hl⟩ rfl ?_
  repeat' first
    | (refine Step.mk ?_; conv => whnf)
    | with_reducible trivial
    | with_reducible exact same_rfl
    | (refine Two.mk (Step.out ?_) (Step.out ?_))
  all_goals first
    | trivial
    | exact hb h
    | with_reducible rfl
    | with_reducible exact same_rfl
    | omega
theorem word_end (d : Dk) (x a s : Int) (hx : 0 ≤ x ∧ x ≤ 18446744073709551615) (ha : 0 ≤ a) :
    Lf2 (fun y (_ : Dk) => 0 ≤ y ∧ y ≤ 18446744073709551615) fun y z => Two (wkD (u64 y) (u64 x) false) (wkL [z.b] [.fbox [ints d.l, i64 a, u64 s]] false) := by
  refine Lf2.by x ⟨d.l, a, s, ha, d.hl⟩ hx ?_
  repeat' first
    | (refine Step.mk ?_; conv => whnf)
    | with_reducible trivial
    | with_reducible exact same_rfl
    | (refine Two.mk (Step.out ?_) (Step.out ?_))
theorem word_ct (d : Dk) : Ct Tryz.prog 26 [d.b] fun r outs => ∃ x d', (0 ≤ x ∧ x ≤ 18446744073709551615) ∧ r = u64 x ∧ outs = [Dk.b d'] := by
  have h0 := d.h0
  have hl := d.hl
  refine .some2 (.of_W (fn := Tryz.f26) hΓ hm Tryz.func26 ord26 [] (by kernel_rfl) (Step.out ?_))
  repeat' first
    | (refine Step.mk ?_; conv => whnf)
    | (refine Vc.om ?_ ?_; first | omega | with_reducible rfl | with_reducible exact same_rfl)
    | (refine Wr.i64 ?_ ?_; omega)
    | (refine Wr.raw ?_)
    | (refine Br.d (fun h => ?_) (fun h => ?_))
  · refine word_end d _ _ _ ?_ ?_
    · exact wu_in _
    · omega
  · refine word_end d _ _ _ ?_ ?_
    · exact wu_in _
    · omega
theorem half (x : Int) : x.fdiv (2 ^ min (Int.toNat 1) IntKind.u64.bits) = x / 2 := by
  rw [Int.fdiv_eq_ediv_of_nonneg _ (by decide)]; rfl
theorem tmod_bd (x n : Int) (h0 : 0 ≤ x) (h1 : ¬n < 1) : 0 ≤ x.tmod n ∧ (n < 1 → x.tmod n = 0) ∧ (1 ≤ n → x.tmod n < n) := by
  rw [Int.tmod_eq_emod_of_nonneg h0]
  exact ⟨Int.emod_nonneg _ (by omega), fun h => absurd h h1, fun h => Int.emod_lt_of_pos _ (by omega)⟩
theorem next_ct (d : Dk) (n : Int) : Ct Tryz.prog 24 [d.b, i64 n] fun r outs => ∃ x d', (0 ≤ x ∧ (n < 1 → x = 0) ∧ (1 ≤ n → x < n)) ∧ r = i64 x ∧ outs = [Dk.b d'] := by
  refine .some2 (.of_W (fn := Tryz.f24) hΓ hm Tryz.func24 [] [] (by kernel_rfl) (Step.out ?_))
  repeat' first
    | (refine Step.mk ?_; conv => whnf)
    | (refine Vc.om ?_ ?_; first | omega | with_reducible rfl | with_reducible exact same_rfl)
    | (refine Wr.i64 ?_ ?_; omega)
    | (rw [half])
    | (refine Br.d (fun h => ?_) (fun h => ?_))
    | (refine CallOK.io1 (g := 26) (Step.out ?_))
    | (refine Met.by (g := 26) (word_ct _) ?_; rintro q outs ⟨x, d, hx, rfl, rfl⟩)
  · refine Lf2.by 0 d ⟨Int.le_refl 0, fun _ => rfl, fun _ => by omega⟩ ?_
    repeat' first
      | (refine Step.mk ?_; conv => whnf)
      | with_reducible trivial
      | with_reducible exact same_rfl
      | (refine Two.mk (Step.out ?_) (Step.out ?_))
  · refine Lf2.by _ d (tmod_bd (x / 2) n (by omega) h) ?_
    repeat' first
      | (refine Step.mk ?_; conv => whnf)
      | with_reducible trivial
      | with_reducible exact same_rfl
      | (refine Two.mk (Step.out ?_) (Step.out ?_))
end Kx
