/-
  The types and the orders of the regions of this program, as the walk reads them.
  No condition beyond those written in each theorem.
-/
import Derived.Test.YtmomigckcngegaaGreatDoorFC
import Derived.Test.YtmomigckcngegaaGreatDoorProg
set_option linter.unusedSimpArgs false
set_option linter.unusedVariables false
set_option maxRecDepth 4000
open Go Sx Go.Proofs
namespace Kx
def Γ:Ty:=[
 (2,⟨.int .i64,1,8,.int .i64 0⟩) ,
 (3,⟨.int .i64,1,8,.int .i64 0⟩) ,
 (4,⟨.bool,1,1,.lit false⟩) ,
 (5,⟨.int .u8,1,1,.int .u8 0⟩) ,
 (9,⟨.str,1,16,.str []⟩) ,
 (12,⟨.int .u64,1,8,.int .u64 0⟩) ,
 (21,⟨.int .i32,1,4,.int .i32 0⟩) ,
 (22,⟨.slice 3,1,24,.nil⟩) ,
 (25,⟨.ptr 80,1,8,.null⟩) ,
 (27,⟨.slice 63,1,24,.nil⟩) ,
 (28,⟨.slice 9,1,24,.nil⟩) ,
 (29,⟨.slice 126,1,24,.nil⟩) ,
 (30,⟨.struct [(0,1,28),(1,1,29),(2,1,29)],3,72,.agg [.nil,.nil,.nil]⟩) ,
 (31,⟨.struct [(0,1,28),(1,1,29),(2,1,29)],3,72,.agg [.nil,.nil,.nil]⟩) ,
 (32,⟨.struct [(0,1,27),(1,3,31)],4,96,.agg [.nil,.nil,.nil,.nil]⟩) ,
 (33,⟨.struct [(0,1,27),(1,3,31)],4,96,.agg [.nil,.nil,.nil,.nil]⟩) ,
 (35,⟨.int .u64,1,8,.int .u64 0⟩) ,
 (36,⟨.struct [(0,1,35),(1,1,35)],2,16,.agg [.int .u64 0,.int .u64 0]⟩) ,
 (37,⟨.struct [(0,1,35),(1,1,35)],2,16,.agg [.int .u64 0,.int .u64 0]⟩) ,
 (39,⟨.slice 85,1,24,.nil⟩) ,
 (41,⟨.slice 87,1,24,.nil⟩) ,
 (43,⟨.slice 95,1,24,.nil⟩) ,
 (44,⟨.int .i64,1,8,.int .i64 0⟩) ,
 (47,⟨.slice 68,1,24,.nil⟩) ,
 (52,⟨.struct [(0,1,22),(1,1,3),(2,1,3)],3,40,.agg [.nil,.int .i64 0,.int .i64 0]⟩) ,
 (53,⟨.struct [(0,1,22),(1,1,3),(2,1,3)],3,40,.agg [.nil,.int .i64 0,.int .i64 0]⟩) ,
 (56,⟨.slice 102,1,24,.nil⟩) ,
 (62,⟨.struct [(0,1,9),(1,1,3)],2,24,.agg [.str [],.int .i64 0]⟩) ,
 (63,⟨.struct [(0,1,9),(1,1,3)],2,24,.agg [.str [],.int .i64 0]⟩) ,
 (64,⟨.struct [(0,1,3),(1,1,3),(2,1,3)],3,24,.agg [.int .i64 0,.int .i64 0,.int .i64 0]⟩) ,
 (65,⟨.struct [(0,1,3),(1,1,3),(2,1,3)],3,24,.agg [.int .i64 0,.int .i64 0,.int .i64 0]⟩) ,
 (66,⟨.slice 65,1,24,.nil⟩) ,
 (67,⟨.struct [(0,1,3),(1,1,3),(2,1,28)],3,40,.agg [.int .i64 0,.int .i64 0,.nil]⟩) ,
 (68,⟨.struct [(0,1,3),(1,1,3),(2,1,28)],3,40,.agg [.int .i64 0,.int .i64 0,.nil]⟩) ,
 (71,⟨.slice 118,1,24,.nil⟩) ,
 (72,⟨.struct [(0,1,3),(1,1,3),(2,1,71)],3,40,.agg [.int .i64 0,.int .i64 0,.nil]⟩) ,
 (73,⟨.struct [(0,1,3),(1,1,3),(2,1,71)],3,40,.agg [.int .i64 0,.int .i64 0,.nil]⟩) ,
 (79,⟨.struct [(0,1,22),(1,1,3),(2,1,35)],3,40,.agg [.nil,.int .i64 0,.int .u64 0]⟩) ,
 (80,⟨.struct [(0,1,22),(1,1,3),(2,1,35)],3,40,.agg [.nil,.int .i64 0,.int .u64 0]⟩) ,
 (84,⟨.struct [(0,1,41)],1,24,.agg [.nil]⟩) ,
 (85,⟨.struct [(0,1,41)],1,24,.agg [.nil]⟩) ,
 (86,⟨.struct [(0,1,3),(1,1,3)],2,16,.agg [.int .i64 0,.int .i64 0]⟩) ,
 (87,⟨.struct [(0,1,3),(1,1,3)],2,16,.agg [.int .i64 0,.int .i64 0]⟩) ,
 (95,⟨.slice 135,1,24,.nil⟩) ,
 (99,⟨.map 102 3,1,8,.any⟩) ,
 (101,⟨.struct [(0,1,3),(1,1,3)],2,16,.agg [.int .i64 0,.int .i64 0]⟩) ,
 (102,⟨.struct [(0,1,3),(1,1,3)],2,16,.agg [.int .i64 0,.int .i64 0]⟩) ,
 (103,⟨.int .u64,1,8,.int .u64 0⟩) ,
 (116,⟨.slice 35,1,24,.nil⟩) ,
 (117,⟨.struct [(0,1,3),(1,1,116)],2,32,.agg [.int .i64 0,.nil]⟩) ,
 (118,⟨.struct [(0,1,3),(1,1,116)],2,32,.agg [.int .i64 0,.nil]⟩) ,
 (125,⟨.struct [(0,1,9),(1,1,9)],2,32,.agg [.str [],.str []]⟩) ,
 (126,⟨.struct [(0,1,9),(1,1,9)],2,32,.agg [.str [],.str []]⟩) ,
 (134,⟨.struct [(0,1,35),(1,1,22)],2,32,.agg [.int .u64 0,.nil]⟩) ,
 (135,⟨.struct [(0,1,35),(1,1,22)],2,32,.agg [.int .u64 0,.nil]⟩) ,
 (144,⟨.func,1,8,.nilfn⟩) ,
 (146,⟨.func,1,8,.nilfn⟩) ,
 (147,⟨.func,1,8,.nilfn⟩) ,
 (148,⟨.func,1,8,.nilfn⟩) ,
 (149,⟨.struct [(0,1,9),(1,1,146),(2,1,147),(3,1,148)],4,40,.agg [.str [],.nilfn,.nilfn,.nilfn]⟩) ,
 (150,⟨.struct [(0,1,9),(1,1,146),(2,1,147),(3,1,148)],4,40,.agg [.str [],.nilfn,.nilfn,.nilfn]⟩) ,
 (161,⟨.arr 6 3,6,48,.vec 6 fun _=>.int .i64 0⟩) ,
 (170,⟨.int .i64,1,8,.int .i64 0⟩) ,
 (177,⟨.int .u32,1,4,.int .u32 0⟩) ,
 (189,⟨.struct [(0,1,3),(1,1,3),(2,1,3)],3,24,.agg [.int .i64 0,.int .i64 0,.int .i64 0]⟩) ,
 (190,⟨.struct [(0,1,3),(1,1,3),(2,1,3)],3,24,.agg [.int .i64 0,.int .i64 0,.int .i64 0]⟩) ,
 (192,⟨.slice 44,1,24,.nil⟩) ,
 (193,⟨.map 3 4,1,8,.any⟩) ,
 (199,⟨.arr 5 150,20,200,.agg [.str [],.nilfn,.nilfn,.nilfn,.str [],.nilfn,.nilfn,.nilfn,.str [],.nilfn,.nilfn,.nilfn,.str [],.nilfn,.nilfn,.nilfn,.str [],.nilfn,.nilfn,.nilfn]⟩) ,
 (202,⟨.struct [(0,1,3),(1,1,4),(2,1,9)],3,32,.agg [.int .i64 0,.lit false,.str []]⟩) ,
 (203,⟨.struct [(0,1,3),(1,1,4),(2,1,9)],3,32,.agg [.int .i64 0,.lit false,.str []]⟩) ,
 (211,⟨.slice 5,1,24,.nil⟩) ,
 (215,⟨.int .u64,1,8,.int .u64 0⟩) ,
 (218,⟨.ptr 3,1,8,.null⟩) ,
 (231,⟨.ptr 215,1,8,.null⟩) ,
 (235,⟨.struct [(0,1,35),(1,1,35),(2,1,35),(3,1,35)],4,32,.agg [.int .u64 0,.int .u64 0,.int .u64 0,.int .u64 0]⟩) ,
 (236,⟨.struct [(0,1,35),(1,1,35),(2,1,35),(3,1,35)],4,32,.agg [.int .u64 0,.int .u64 0,.int .u64 0,.int .u64 0]⟩) ,
 (255,⟨.ptr 236,1,8,.null⟩) ,
 (257,⟨.arr 24 5,24,24,.vec 24 fun _=>.int .u8 0⟩) ,
 (263,⟨.arr 64 9,64,1024,.vec 64 fun _=>.str []⟩) ,
 (265,⟨.ptr 267,1,8,.null⟩) ,
 (266,⟨.struct [(0,1,265),(1,1,211)],2,32,.agg [.null,.nil]⟩) ,
 (267,⟨.struct [(0,1,265),(1,1,211)],2,32,.agg [.null,.nil]⟩) ,
 (278,⟨.func,1,8,.nilfn⟩) ,
 (289,⟨.arr 20 35,20,160,.vec 20 fun _=>.int .u64 0⟩) ,
 (290,⟨.arr 65 5,65,65,.vec 65 fun _=>.int .u8 0⟩) ,
 (291,⟨.ptr 5,1,8,.null⟩) ,
 (292,⟨.slice 294,1,24,.nil⟩) ,
 (293,⟨.struct [(0,1,3),(1,1,3)],2,16,.agg [.int .i64 0,.int .i64 0]⟩) ,
 (294,⟨.struct [(0,1,3),(1,1,3)],2,16,.agg [.int .i64 0,.int .i64 0]⟩) ,
 (307,⟨.arr 12 3,12,96,.vec 12 fun _=>.int .i64 0⟩) ,
 (312,⟨.arr 32 5,32,32,.vec 32 fun _=>.int .u8 0⟩) ,
 (313,⟨.arr 64 5,64,64,.vec 64 fun _=>.int .u8 0⟩) ,
 (324,⟨.struct [(0,1,5),(1,1,5)],2,2,.agg [.int .u8 0,.int .u8 0]⟩) ]
theorem hΓ:TyOK Tryz.prog Γ:=tyOK (by decide +kernel)
theorem hm:Tryz.prog.follows .mixedOrders=true:=by decide +kernel
def ord3:Ords:=[(5,.ph [0,2] (.way 1 (.ph [3] (.alt 4 (.st 5 (.st 6 (.ph [7] (.fin)))) 5 (.st 4 (.st 6 (.ph [7] (.fin)))))) (.way 3 (.alt 1 (.alt 4 (.st 5 (.st 6 (.ph [7] (.fin)))) 5 (.st 4 (.st 6 (.ph [7] (.fin))))) 5 (.st 1 (.st 4 (.st 6 (.ph [7] (.fin)))))) (.way 5 (.alt 1 (.ph [3] (.st 4 (.st 6 (.ph [7] (.fin))))) 3 (.st 1 (.st 4 (.st 6 (.ph [7] (.fin)))))) (.non))))),(8,.ph [2,3,4] (.way 0 (.alt 1 (.st 5 (.qc 6 (.ph [7,8,9] (.ph [10] (.ph [11] (.fin)))))) 5 (.ph [1] (.qc 6 (.ph [7,8,9] (.ph [10] (.ph [11] (.fin))))))) (.way 1 (.alt 0 (.st 5 (.qc 6 (.ph [7,8,9] (.ph [10] (.ph [11] (.fin)))))) 5 (.ph [0] (.qc 6 (.ph [7,8,9] (.ph [10] (.ph [11] (.fin))))))) (.way 5 (.ph [0] (.ph [1] (.qc 6 (.ph [7,8,9] (.ph [10] (.ph [11] (.fin))))))) (.non))))),(9,.ph [2,3,4] (.way 0 (.alt 1 (.st 5 (.qc 6 (.ph [7,8,9] (.ph [10] (.ph [11] (.fin)))))) 5 (.ph [1] (.qc 6 (.ph [7,8,9] (.ph [10] (.ph [11] (.fin))))))) (.way 1 (.alt 0 (.st 5 (.qc 6 (.ph [7,8,9] (.ph [10] (.ph [11] (.fin)))))) 5 (.ph [0] (.qc 6 (.ph [7,8,9] (.ph [10] (.ph [11] (.fin))))))) (.way 5 (.ph [0] (.ph [1] (.qc 6 (.ph [7,8,9] (.ph [10] (.ph [11] (.fin))))))) (.non)))))]
def ord7:Ords:=[(10,.ph [0,2,3,4,6,1] (.ph [5] (.ph [7] (.st 8 (.st 9 (.ph [10] (.st 11 (.fin))))))))]
def ord15:Ords:=[(15,.ph [0] (.ph [1] (.ph [2,3,5,8,10,4,6,9,11] (.qc 7 (.qc 12 (.st 13 (.qc 14 (.ph [15] (.ph [16] (.fin))))))))))]
def ord21:Ords:=[(7,.ph [0,2,4,1] (.ph [3] (.ph [5] (.ph [6] (.qc 7 (.st 8 (.st 9 (.ph [10] (.fin)))))))))]
def ord26:Ords:=[(2,.ph [0,1,2,4,5,6,3] (.ph [7] (.ph [8] (.ph [9] (.fin))))),(3,.ph [0,1,2,4,5,6,3] (.ph [7] (.ph [8] (.ph [9] (.ph [10] (.ph [11] (.fin))))))),(6,.ph [0,1,2,4,5,6,3] (.ph [7] (.ph [8] (.ph [9] (.ph [10] (.fin))))))]
def ord31:Ords:=[(6,.ph [0,1,2,4,5,6,7,3] (.ph [8] (.ph [9] (.fin)))),(11,.ph [0,1,2,4,5,6,7,3] (.ph [8] (.ph [9] (.fin))))]
def ord33:Ords:=[(12,.ph [0] (.ph [1] (.ph [2,3,4,5,6,7,9,8] (.ph [10] (.ph [11] (.ph [12] (.fin)))))))]
def ord36:Ords:=[(6,.ph [0,1,2,5,6,7,3,8] (.qc 4 (.qc 9 (.st 10 (.qc 11 (.ph [12] (.fin)))))))]
def ord41:Ords:=[(9,.ph [0,1,2,4,3] (.ph [5] (.qc 6 (.ph [7] (.ph [8] (.ph [9] (.st 10 (.fin))))))))]
def ord52:Ords:=[(4,.ph [0,2] (.qc 1 (.qc 3 (.ph [4] (.ph [5] (.fin))))))]
def ord61:Ords:=[(6,.ph [0] (.ph [1] (.qc 2 (.ph [3] (.ph [4] (.ph [5] (.ph [6] (.ph [7,8,10,11,9,12,13] (.ph [14] (.qc 15 (.ph [16] (.ph [17] (.ph [18] (.fin))))))))))))))]
def ord63:Ords:=[(9,.ph [1,5,0] (.qc 2 (.ph [3] (.qc 4 (.qc 6 (.ph [7] (.ph [8] (.fin))))))))]
def ord67:Ords:=[(11,.ph [0,1,2,3,4,5] (.ph [6] (.ph [7] (.st 8 (.fin))))),(15,.ph [0,1,2,3,4,5] (.ph [6] (.ph [7] (.st 8 (.fin)))))]
def ord69:Ords:=[(12,.ph [1,2,3,4,0] (.ph [5] (.qc 6 (.ph [7,8,9] (.ph [10] (.ph [11] (.fin)))))))]
def ord71:Ords:=[(13,.ph [0] (.ph [1] (.ph [2] (.ph [3] (.ph [4] (.ph [5] (.ph [6] (.ph [7,8,9,10,11,12,14,13] (.ph [15] (.ph [16] (.ph [17] (.ph [18] (.fin)))))))))))))]
def ord74:Ords:=[(4,.ph [1,2,3,0] (.ph [4] (.ph [5] (.fin))))]
def ord77:Ords:=[(6,.ph [1,3,2,4,5,6] (.qc 0 (.ph [7] (.st 8 (.ph [9] (.fin))))))]
def ord81:Ords:=[(6,.ph [1,2,4,0] (.ph [3] (.ph [5] (.ph [6] (.qc 7 (.ph [8,9,10] (.ph [11] (.ph [12] (.fin))))))))),(9,.ph [4,0,1] (.ph [2] (.qc 3 (.qc 5 (.ph [6] (.ph [7] (.st 8 (.ph [9] (.fin)))))))))]
def ord88:Ords:=[(4,.ph [0] (.ph [1] (.qc 2 (.ph [3] (.ph [4] (.ph [5] (.ph [6] (.qc 7 (.ph [8] (.ph [9] (.ph [10] (.ph [11] (.ph [12] (.ph [13,14,15,16,17,18,20,19] (.ph [21] (.ph [22] (.ph [23] (.ph [24] (.ph [25,26] (.ph [27] (.ph [28] (.qc 29 (.ph [30] (.ph [31] (.fin)))))))))))))))))))))))))]
def ord102:Ords:=[(1,.ph [0] (.ph [1] (.ph [2] (.ph [3,4,6,5] (.ph [7] (.ph [8] (.ph [9] (.ph [10] (.ph [11,12,14,16,13,15] (.ph [17] (.ph [18] (.ph [19] (.ph [20] (.qc 21 (.ph [22] (.ph [23] (.fin)))))))))))))))))]
def ord103:Ords:=[(1,.ph [0,2,5,7,1,3,6,8] (.qc 4 (.qc 9 (.st 10 (.qc 11 (.ph [12] (.fin)))))))]
def ord108:Ords:=[(1,.ph [1,5,0,4] (.alt 2 (.qw 3 (.st 6 (.qc 7 (.ph [8] (.st 9 (.fin))))) (.way 6 (.qc 3 (.qc 7 (.ph [8] (.st 9 (.fin))))) (.non))) 6 (.st 2 (.qc 3 (.qc 7 (.ph [8] (.st 9 (.fin))))))))]
def ord113:Ords:=[(1,.ph [0,4,9,12,1,2,5,6,10,13] (.qc 3 (.qc 7 (.ph [8] (.qc 11 (.qc 14 (.ph [15] (.ph [16] (.ph [17] (.fin))))))))))]
def ord116:Ords:=[(12,.ph [0,2,6,1,3,4,5] (.ph [7] (.ph [8] (.fin))))]
def ord129:Ords:=[(14,.ph [0,2,3,6,7,8] (.ph [1] (.ph [4] (.ph [5] (.ph [9] (.ph [10] (.st 11 (.fin))))))))]
def ord130:Ords:=[(1,.ph [1,0] (.ph [2] (.qc 3 (.ph [4] (.qc 5 (.st 6 (.fin)))))))]
def ord131:Ords:=[(3,.ph [0,2,3,4] (.way 1 (.alt 5 (.ph [6] (.st 7 (.st 8 (.fin)))) 7 (.st 5 (.ph [6] (.st 8 (.fin))))) (.way 5 (.ph [1,6] (.st 7 (.st 8 (.fin)))) (.way 7 (.alt 1 (.st 5 (.ph [6] (.st 8 (.fin)))) 5 (.ph [1] (.ph [6] (.st 8 (.fin))))) (.non))))),(7,.ph [0,2,3,4,5,7,6,8,9] (.alt 1 (.st 10 (.ph [11] (.st 12 (.fin)))) 10 (.ph [1] (.ph [11] (.st 12 (.fin))))))]
def ord153:Ords:=[(13,.ph [0,2,4,1] (.ph [3] (.ph [5] (.ph [6] (.ph [7] (.qc 8 (.fin)))))))]
def ord156:Ords:=[(11,.ph [0,1,2,4,5,6,3] (.ph [7] (.qc 8 (.ph [9] (.st 10 (.fin))))))]
def ord157:Ords:=[(4,.ph [0,1,2,3] (.ph [4] (.ph [5] (.qc 6 (.ph [7] (.ph [8] (.st 9 (.ph [10] (.fin))))))))),(6,.ph [0,1,2,3] (.ph [4] (.ph [5] (.qc 6 (.ph [7] (.ph [8] (.st 9 (.ph [10] (.fin))))))))),(8,.ph [0,1,2,3] (.ph [4] (.ph [5] (.qc 6 (.ph [7] (.ph [8] (.st 9 (.ph [10] (.fin)))))))))]
def ord158:Ords:=[(3,.ph [0,4,9,13,1,2,5,6,10,14] (.qc 3 (.qc 7 (.ph [8] (.qc 11 (.ph [12] (.qc 15 (.ph [16] (.ph [17] (.ph [18] (.fin)))))))))))]
def ord167:Ords:=[(3,.ph [0,1,2,3] (.ph [4] (.ph [5] (.qc 6 (.ph [7] (.ph [8] (.st 9 (.ph [10] (.fin)))))))))]
def ord177:Ords:=[(4,.ph [0,5,1] (.way 2 (.ph [3] (.ph [4] (.qc 6 (.ph [7] (.ph [8] (.fin)))))) (.way 3 (.alt 2 (.ph [4] (.qc 6 (.ph [7] (.ph [8] (.fin))))) 4 (.way 2 (.qc 6 (.ph [7] (.ph [8] (.fin)))) (.qw 6 (.st 2 (.ph [7] (.ph [8] (.fin)))) (.non)))) (.way 4 (.alt 2 (.ph [3] (.qc 6 (.ph [7] (.ph [8] (.fin))))) 3 (.way 2 (.qc 6 (.ph [7] (.ph [8] (.fin)))) (.qw 6 (.st 2 (.ph [7] (.ph [8] (.fin)))) (.non)))) (.non)))))]
def ord188:Ords:=[(2,.ph [0,1,2,4,5,6,3] (.ph [7] (.ph [8] (.ph [9] (.ph [10] (.st 11 (.fin))))))),(3,.ph [0,1,2,3,6,7,8,4,9] (.qc 5 (.ph [10] (.ph [11] (.ph [12] (.st 13 (.fin))))))),(5,.ph [0,1,2,4,5,6,3] (.ph [7] (.ph [8] (.ph [9] (.ph [10] (.st 11 (.fin))))))),(6,.ph [0,1,2,3,6,7,8,4,9] (.qc 5 (.ph [10] (.ph [11] (.ph [12] (.st 13 (.fin))))))),(7,.ph [0,1,2,4,5,6,3] (.ph [7] (.ph [8] (.ph [9] (.ph [10] (.st 11 (.fin))))))),(8,.ph [0,1,2,3,6,7,8,4,9] (.qc 5 (.ph [10] (.ph [11] (.ph [12] (.st 13 (.fin))))))),(9,.ph [0,1,2,4,5,6,3] (.ph [7] (.ph [8] (.ph [9] (.ph [10] (.st 11 (.fin))))))),(10,.ph [0,1,2,3,6,7,8,4,9] (.qc 5 (.ph [10] (.ph [11] (.ph [12] (.st 13 (.fin)))))))]
def ord193:Ords:=[(4,.ph [0,1,2,4,5,6,7,3] (.ph [8] (.ph [9] (.fin))))]
def ord205:Ords:=[(1,.ph [0] (.ph [1] (.ph [2] (.ph [3] (.ph [4] (.ph [5] (.ph [6] (.ph [7] (.ph [8] (.ph [9] (.ph [10] (.ph [11] (.ph [12] (.ph [13] (.ph [14] (.ph [15] (.ph [16] (.ph [17] (.ph [18] (.ph [19] (.ph [20] (.ph [21] (.ph [22] (.ph [23,24,26,28,25,27] (.ph [29] (.qc 30 (.ph [31] (.ph [32] (.ph [33] (.fin))))))))))))))))))))))))))))))]
def ord213:Ords:=[(3,.ph [0,1,2,3] (.ph [4] (.ph [5] (.qc 6 (.ph [7] (.ph [8] (.st 9 (.ph [10] (.fin))))))))),(5,.ph [0,1,2,3] (.ph [4] (.ph [5] (.qc 6 (.ph [7] (.ph [8] (.st 9 (.ph [10] (.fin))))))))),(7,.ph [0,1,2,3] (.ph [4] (.ph [5] (.qc 6 (.ph [7] (.ph [8] (.st 9 (.ph [10] (.fin)))))))))]
def ord214:Ords:=[(3,.ph [0,3,6,1] (.way 2 (.ph [4] (.alt 5 (.ph [7] (.st 8 (.st 9 (.ph [10] (.ph [11] (.fin)))))) 7 (.st 5 (.st 8 (.st 9 (.ph [10] (.ph [11] (.fin)))))))) (.way 4 (.alt 2 (.alt 5 (.ph [7] (.st 8 (.st 9 (.ph [10] (.ph [11] (.fin)))))) 7 (.st 5 (.st 8 (.st 9 (.ph [10] (.ph [11] (.fin))))))) 7 (.st 2 (.st 5 (.st 8 (.st 9 (.ph [10] (.ph [11] (.fin)))))))) (.way 7 (.alt 2 (.ph [4] (.st 5 (.st 8 (.st 9 (.ph [10] (.ph [11] (.fin))))))) 4 (.st 2 (.st 5 (.st 8 (.st 9 (.ph [10] (.ph [11] (.fin)))))))) (.non)))))]
def ord221:Ords:=[(1,.ph [1,4,0,5,6] (.alt 2 (.qw 3 (.ph [7,8] (.st 9 (.st 10 (.fin)))) (.way 9 (.qc 3 (.ph [7] (.ph [8] (.st 10 (.fin))))) (.non))) 9 (.st 2 (.qc 3 (.ph [7] (.ph [8] (.st 10 (.fin)))))))),(2,.ph [1,4,0,5,6,7] (.alt 2 (.qw 3 (.ph [8,9,10] (.st 11 (.st 12 (.fin)))) (.way 11 (.qc 3 (.ph [8] (.ph [9] (.ph [10] (.st 12 (.fin)))))) (.non))) 11 (.st 2 (.qc 3 (.ph [8] (.ph [9] (.ph [10] (.st 12 (.fin)))))))))]
def ord222:Ords:=[(3,.ph [0,1,3,4] (.way 2 (.qc 5 (.ph [6] (.ph [7] (.fin)))) (.qw 5 (.st 2 (.ph [6] (.ph [7] (.fin)))) (.non))))]
def ord238:Ords:=[(1,.ph [0,1,2,5,6,7,3] (.alt 4 (.ph [8] (.ph [9] (.st 10 (.ph [11] (.fin))))) 8 (.ph [9] (.st 4 (.st 10 (.ph [11] (.fin)))))))]
def ord244:Ords:=[(1,.ph [0] (.ph [1] (.ph [2] (.ph [3] (.ph [4] (.ph [5] (.ph [6] (.ph [7] (.ph [8] (.ph [9] (.ph [10] (.ph [11] (.ph [12] (.ph [13] (.ph [14] (.ph [15] (.ph [16] (.ph [17] (.ph [18] (.ph [19] (.ph [20] (.ph [21] (.ph [22] (.ph [23,24,26,28,25,27] (.ph [29] (.qc 30 (.ph [31] (.ph [32] (.ph [33] (.fin))))))))))))))))))))))))))))))]
def ord249:Ords:=[(1,.ph [4,0] (.way 1 (.way 2 (.ph [3] (.alt 5 (.ph [6] (.st 7 (.st 8 (.fin)))) 7 (.ph [5] (.ph [6] (.st 8 (.fin)))))) (.way 5 (.alt 2 (.ph [3,6] (.st 7 (.st 8 (.fin)))) 7 (.ph [2] (.ph [3] (.ph [6] (.st 8 (.fin)))))) (.way 7 (.ph [2,3] (.ph [5] (.ph [6] (.st 8 (.fin))))) (.non)))) (.way 2 (.way 1 (.ph [3] (.alt 5 (.ph [6] (.st 7 (.st 8 (.fin)))) 7 (.ph [5] (.ph [6] (.st 8 (.fin)))))) (.way 5 (.alt 1 (.ph [3,6] (.st 7 (.st 8 (.fin)))) 7 (.ph [1] (.ph [3] (.ph [6] (.st 8 (.fin)))))) (.way 7 (.ph [1,3] (.ph [5] (.ph [6] (.st 8 (.fin))))) (.non)))) (.way 5 (.way 1 (.alt 2 (.ph [3,6] (.st 7 (.st 8 (.fin)))) 7 (.ph [2] (.ph [3] (.ph [6] (.st 8 (.fin)))))) (.way 2 (.alt 1 (.ph [3,6] (.st 7 (.st 8 (.fin)))) 7 (.ph [1] (.ph [3] (.ph [6] (.st 8 (.fin)))))) (.way 7 (.ph [1] (.ph [2] (.ph [3] (.ph [6] (.st 8 (.fin)))))) (.non)))) (.way 7 (.ph [1,2,3] (.ph [5] (.ph [6] (.st 8 (.fin))))) (.non))))))]
theorem bytes_2:(Γ.get 2).bytes=8:=rfl
theorem bytes_3:(Γ.get 3).bytes=8:=rfl
theorem bytes_4:(Γ.get 4).bytes=1:=rfl
theorem bytes_5:(Γ.get 5).bytes=1:=rfl
theorem bytes_9:(Γ.get 9).bytes=16:=rfl
theorem bytes_12:(Γ.get 12).bytes=8:=rfl
theorem bytes_21:(Γ.get 21).bytes=4:=rfl
theorem bytes_22:(Γ.get 22).bytes=24:=rfl
theorem bytes_25:(Γ.get 25).bytes=8:=rfl
theorem bytes_27:(Γ.get 27).bytes=24:=rfl
theorem bytes_28:(Γ.get 28).bytes=24:=rfl
theorem bytes_29:(Γ.get 29).bytes=24:=rfl
theorem bytes_30:(Γ.get 30).bytes=72:=rfl
theorem bytes_31:(Γ.get 31).bytes=72:=rfl
theorem bytes_32:(Γ.get 32).bytes=96:=rfl
theorem bytes_33:(Γ.get 33).bytes=96:=rfl
theorem bytes_35:(Γ.get 35).bytes=8:=rfl
theorem bytes_36:(Γ.get 36).bytes=16:=rfl
theorem bytes_37:(Γ.get 37).bytes=16:=rfl
theorem bytes_39:(Γ.get 39).bytes=24:=rfl
theorem bytes_41:(Γ.get 41).bytes=24:=rfl
theorem bytes_43:(Γ.get 43).bytes=24:=rfl
theorem bytes_44:(Γ.get 44).bytes=8:=rfl
theorem bytes_47:(Γ.get 47).bytes=24:=rfl
theorem bytes_52:(Γ.get 52).bytes=40:=rfl
theorem bytes_53:(Γ.get 53).bytes=40:=rfl
theorem bytes_56:(Γ.get 56).bytes=24:=rfl
theorem bytes_62:(Γ.get 62).bytes=24:=rfl
theorem bytes_63:(Γ.get 63).bytes=24:=rfl
theorem bytes_64:(Γ.get 64).bytes=24:=rfl
theorem bytes_65:(Γ.get 65).bytes=24:=rfl
theorem bytes_66:(Γ.get 66).bytes=24:=rfl
theorem bytes_67:(Γ.get 67).bytes=40:=rfl
theorem bytes_68:(Γ.get 68).bytes=40:=rfl
theorem bytes_71:(Γ.get 71).bytes=24:=rfl
theorem bytes_72:(Γ.get 72).bytes=40:=rfl
theorem bytes_73:(Γ.get 73).bytes=40:=rfl
theorem bytes_79:(Γ.get 79).bytes=40:=rfl
theorem bytes_80:(Γ.get 80).bytes=40:=rfl
theorem bytes_84:(Γ.get 84).bytes=24:=rfl
theorem bytes_85:(Γ.get 85).bytes=24:=rfl
theorem bytes_86:(Γ.get 86).bytes=16:=rfl
theorem bytes_87:(Γ.get 87).bytes=16:=rfl
theorem bytes_95:(Γ.get 95).bytes=24:=rfl
theorem bytes_99:(Γ.get 99).bytes=8:=rfl
theorem bytes_101:(Γ.get 101).bytes=16:=rfl
theorem bytes_102:(Γ.get 102).bytes=16:=rfl
theorem bytes_103:(Γ.get 103).bytes=8:=rfl
theorem bytes_116:(Γ.get 116).bytes=24:=rfl
theorem bytes_117:(Γ.get 117).bytes=32:=rfl
theorem bytes_118:(Γ.get 118).bytes=32:=rfl
theorem bytes_125:(Γ.get 125).bytes=32:=rfl
theorem bytes_126:(Γ.get 126).bytes=32:=rfl
theorem bytes_134:(Γ.get 134).bytes=32:=rfl
theorem bytes_135:(Γ.get 135).bytes=32:=rfl
theorem bytes_144:(Γ.get 144).bytes=8:=rfl
theorem bytes_146:(Γ.get 146).bytes=8:=rfl
theorem bytes_147:(Γ.get 147).bytes=8:=rfl
theorem bytes_148:(Γ.get 148).bytes=8:=rfl
theorem bytes_149:(Γ.get 149).bytes=40:=rfl
theorem bytes_150:(Γ.get 150).bytes=40:=rfl
theorem bytes_161:(Γ.get 161).bytes=48:=rfl
theorem bytes_170:(Γ.get 170).bytes=8:=rfl
theorem bytes_177:(Γ.get 177).bytes=4:=rfl
theorem bytes_189:(Γ.get 189).bytes=24:=rfl
theorem bytes_190:(Γ.get 190).bytes=24:=rfl
theorem bytes_192:(Γ.get 192).bytes=24:=rfl
theorem bytes_193:(Γ.get 193).bytes=8:=rfl
theorem bytes_199:(Γ.get 199).bytes=200:=rfl
theorem bytes_202:(Γ.get 202).bytes=32:=rfl
theorem bytes_203:(Γ.get 203).bytes=32:=rfl
theorem bytes_211:(Γ.get 211).bytes=24:=rfl
theorem bytes_215:(Γ.get 215).bytes=8:=rfl
theorem bytes_218:(Γ.get 218).bytes=8:=rfl
theorem bytes_231:(Γ.get 231).bytes=8:=rfl
theorem bytes_235:(Γ.get 235).bytes=32:=rfl
theorem bytes_236:(Γ.get 236).bytes=32:=rfl
theorem bytes_255:(Γ.get 255).bytes=8:=rfl
theorem bytes_257:(Γ.get 257).bytes=24:=rfl
theorem bytes_263:(Γ.get 263).bytes=1024:=rfl
theorem bytes_265:(Γ.get 265).bytes=8:=rfl
theorem bytes_266:(Γ.get 266).bytes=32:=rfl
theorem bytes_267:(Γ.get 267).bytes=32:=rfl
theorem bytes_278:(Γ.get 278).bytes=8:=rfl
theorem bytes_289:(Γ.get 289).bytes=160:=rfl
theorem bytes_290:(Γ.get 290).bytes=65:=rfl
theorem bytes_291:(Γ.get 291).bytes=8:=rfl
theorem bytes_292:(Γ.get 292).bytes=24:=rfl
theorem bytes_293:(Γ.get 293).bytes=16:=rfl
theorem bytes_294:(Γ.get 294).bytes=16:=rfl
theorem bytes_307:(Γ.get 307).bytes=96:=rfl
theorem bytes_312:(Γ.get 312).bytes=32:=rfl
theorem bytes_313:(Γ.get 313).bytes=64:=rfl
theorem bytes_324:(Γ.get 324).bytes=2:=rfl
theorem Vb {p k:Prop} (hk:Step k) (h:p:=by simp only [bytes_2,bytes_3,bytes_4,bytes_5,bytes_9,bytes_12,bytes_21,bytes_22,bytes_25,bytes_27,bytes_28,bytes_29,bytes_30,bytes_31,bytes_32,bytes_33,bytes_35,bytes_36,bytes_37,bytes_39,bytes_41,bytes_43,bytes_44,bytes_47,bytes_52,bytes_53,bytes_56,bytes_62,bytes_63,bytes_64,bytes_65,bytes_66,bytes_67,bytes_68,bytes_71,bytes_72,bytes_73,bytes_79,bytes_80,bytes_84,bytes_85,bytes_86,bytes_87,bytes_95,bytes_99,bytes_101,bytes_102,bytes_103,bytes_116,bytes_117,bytes_118,bytes_125,bytes_126,bytes_134,bytes_135,bytes_144,bytes_146,bytes_147,bytes_148,bytes_149,bytes_150,bytes_161,bytes_170,bytes_177,bytes_189,bytes_190,bytes_192,bytes_193,bytes_199,bytes_202,bytes_203,bytes_211,bytes_215,bytes_218,bytes_231,bytes_235,bytes_236,bytes_255,bytes_257,bytes_263,bytes_265,bytes_266,bytes_267,bytes_278,bytes_289,bytes_290,bytes_291,bytes_292,bytes_293,bytes_294,bytes_307,bytes_312,bytes_313,bytes_324,true_and,and_true]<;>omega):Vc p k:=⟨h,hk.out⟩
theorem De {f:FuncId} {fn:Func} {args:List D} {R:D→List D→Prop} (hf:Tryz.prog.funcs[f]? = some fn) (ords:Ords) (cuts:List Nat) (h:Step (fnW Tryz.prog Γ fn ords cuts args R)) (ho:fnOrd fn ords=true:=by kernel_rfl):Ct Tryz.prog f args R:=.of_W hΓ hm hf ords cuts ho h.out
end Kx
open Go Sx Go.Proofs
namespace Kx
structure Dk where
 l:List Int
 at_:Int
 st:Int
 h0:0≤at_
 hl:l.length≤400
def Dk.ls (d:Dk):List D:=[ints d.l,i64 d.at_,u64 d.st]
def Dk.b (d:Dk):D:=.fbox d.ls
theorem few_ct (l:List Int):Ct Tryz.prog 5 [ints l] fun r outs=>r = .bool (decide (l.length≤400))∧outs = []:=by
 refine .det (De Tryz.func5 [] [] ?_)
 repeat' first|(refine S0 ?_;conv=>whnf)|exact T0|(refine T2 ?_ ?_)
 all_goals first
  | trivial
  | exact hb h
  | with_reducible rfl
  | with_reducible exact same_rfl
  | omega
  | ((simp only [decide_eq_decide];omega))
theorem new_ct (l:List Int) (hl:l.length≤400):Ct Tryz.prog 6 [ints l] fun r outs=>∃ d:Dk,d.l=l∧r=d.b∧outs = []:=by
 refine .some (De Tryz.func6 [] [] ?_)
 repeat' first|(refine S0 ?_;conv=>whnf)
 refine Lf.by ⟨l,0,11400714819323198485,by omega,hl⟩ rfl ?_
 repeat' first|(refine S0 ?_;conv=>whnf)|exact T0|exact T1|(refine T2 ?_ ?_)
 all_goals first
  | trivial
  | exact hb h
  | with_reducible rfl
  | with_reducible exact same_rfl
  | omega
theorem word_end (d:Dk) (x a s:Int) (hx:0≤x∧x≤18446744073709551615) (ha:0≤a) :
 Lf2 (fun y (_:Dk)=>0≤y∧y≤18446744073709551615) fun y z=>Two (wkD (u64 y) (u64 x) false) (wkL [z.b] [.fbox [ints d.l,i64 a,u64 s]] false):=by
 refine Lf2.by x ⟨d.l,a,s,ha,d.hl⟩ hx ?_
 repeat' first|(refine S0 ?_;conv=>whnf)|exact T0|exact T1|(refine T2 ?_ ?_)
theorem word_ct (d:Dk):Ct Tryz.prog 26 [d.b] fun r outs=>∃ x d',(0≤x∧x≤18446744073709551615)∧r=u64 x∧outs = [Dk.b d']:=by
 have h0:=d.h0
 have hl:=d.hl
 refine .some2 (De Tryz.func26 ord26 [] ?_)
 repeat' first|(refine S0 ?_;conv=>whnf)|(refine Vo ?_)|(refine W6 ?_)|(refine Wr.raw ?_)|(refine Br.d (fun h=>?_) fun h=>?_)
 ·refine word_end d _ _ _ ?_ ?_
  ·exact wu_in _
  ·omega
 ·refine word_end d _ _ _ ?_ ?_
  ·exact wu_in _
  ·omega
theorem half (x:Int):x.fdiv (2 ^ min (Int.toNat 1) IntKind.u64.bits)=x / 2:=by
 rw [Int.fdiv_eq_ediv_of_nonneg _ (by decide)];rfl
theorem tmod_bd (x n:Int) (h0:0≤x) (h1:¬n<1):0≤x.tmod n∧(n<1→x.tmod n=0)∧(1≤n→x.tmod n<n):=by
 rw [Int.tmod_eq_emod_of_nonneg h0]
 exact ⟨Int.emod_nonneg _ (by omega),fun h=>absurd h h1,fun h=>Int.emod_lt_of_pos _ (by omega)⟩
theorem next_ct (d:Dk) (n:Int):Ct Tryz.prog 14 [d.b,i64 n] fun r outs=>∃ x d',(0≤x∧(n<1→x=0)∧(1≤n→x<n))∧r=i64 x∧outs = [Dk.b d']:=by
 refine .some2 (De Tryz.func14 [] [] ?_)
 repeat' first|(refine S0 ?_;conv=>whnf)|(refine Vo ?_)|(refine W6 ?_)|(rw [half])|(refine Br.d (fun h=>?_) fun h=>?_)|(refine CallOK.io1 (g:=26) (Step.out ?_))|(refine Met.by (g:=26) (word_ct _) ?_;rintro q outs ⟨x,d,hx,rfl,rfl⟩)
 ·refine Lf2.by 0 d ⟨Int.le_refl 0,fun _=>rfl,fun _=>by omega⟩ ?_
  repeat' first|(refine S0 ?_;conv=>whnf)|exact T0|exact T1|(refine T2 ?_ ?_)
 ·refine Lf2.by _ d (tmod_bd (x / 2) n (by omega) h) ?_
  repeat' first|(refine S0 ?_;conv=>whnf)|exact T0|exact T1|(refine T2 ?_ ?_)
end Kx
