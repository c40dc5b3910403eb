/-
  The types and the orders of the regions of this program, as the walk reads them.
  No condition beyond those written in each theorem.
-/
import Derived.Test.YtjommlbfjnifmaaGreatDoorFD
import Derived.Test.YtjommlbfjnifmaaGreatDoorProg
set_option linter.unusedSimpArgs false
set_option linter.unusedVariables false
set_option maxRecDepth 4000
open Go Sx Go.Proofs
namespace Kx
def Γ:Ty:=[
 (2,⟨.int .i64,1,8,.int .i64 0⟩) ,
 (3,⟨.int .i64,1,8,.int .i64 0⟩) ,
 (4,⟨.bool,1,1,.lit false⟩) ,
 (5,⟨.int .u8,1,1,.int .u8 0⟩) ,
 (9,⟨.str,1,16,.str []⟩) ,
 (12,⟨.int .u64,1,8,.int .u64 0⟩) ,
 (21,⟨.int .i32,1,4,.int .i32 0⟩) ,
 (22,⟨.slice 3,1,24,.nil⟩) ,
 (25,⟨.ptr 89,1,8,.null⟩) ,
 (28,⟨.struct [(0,1,3),(1,1,22),(2,1,22)],3,56,.agg [.int .i64 0,.nil,.nil]⟩) ,
 (29,⟨.struct [(0,1,3),(1,1,22),(2,1,22)],3,56,.agg [.int .i64 0,.nil,.nil]⟩) ,
 (31,⟨.struct [(0,1,3),(1,1,3)],2,16,.agg [.int .i64 0,.int .i64 0]⟩) ,
 (32,⟨.struct [(0,1,3),(1,1,3)],2,16,.agg [.int .i64 0,.int .i64 0]⟩) ,
 (34,⟨.slice 36,1,24,.nil⟩) ,
 (36,⟨.slice 96,1,24,.nil⟩) ,
 (38,⟨.slice 104,1,24,.nil⟩) ,
 (41,⟨.slice 109,1,24,.nil⟩) ,
 (42,⟨.int .i64,1,8,.int .i64 0⟩) ,
 (45,⟨.slice 119,1,24,.nil⟩) ,
 (48,⟨.slice 128,1,24,.nil⟩) ,
 (49,⟨.struct [(0,1,45),(1,1,48),(2,1,3)],3,56,.agg [.nil,.nil,.int .i64 0]⟩) ,
 (50,⟨.struct [(0,1,45),(1,1,48),(2,1,3)],3,56,.agg [.nil,.nil,.int .i64 0]⟩) ,
 (59,⟨.slice 9,1,24,.nil⟩) ,
 (60,⟨.slice 215,1,24,.nil⟩) ,
 (61,⟨.struct [(0,1,59),(1,1,60),(2,1,60)],3,72,.agg [.nil,.nil,.nil]⟩) ,
 (62,⟨.struct [(0,1,59),(1,1,60),(2,1,60)],3,72,.agg [.nil,.nil,.nil]⟩) ,
 (63,⟨.struct [(0,1,9),(1,1,3)],2,24,.agg [.str [],.int .i64 0]⟩) ,
 (64,⟨.struct [(0,1,9),(1,1,3)],2,24,.agg [.str [],.int .i64 0]⟩) ,
 (65,⟨.slice 64,1,24,.nil⟩) ,
 (66,⟨.struct [(0,1,65),(1,3,62)],4,96,.agg [.nil,.nil,.nil,.nil]⟩) ,
 (67,⟨.struct [(0,1,65),(1,3,62)],4,96,.agg [.nil,.nil,.nil,.nil]⟩) ,
 (68,⟨.struct [(0,1,3),(1,1,3),(2,1,3)],3,24,.agg [.int .i64 0,.int .i64 0,.int .i64 0]⟩) ,
 (69,⟨.struct [(0,1,3),(1,1,3),(2,1,3)],3,24,.agg [.int .i64 0,.int .i64 0,.int .i64 0]⟩) ,
 (70,⟨.slice 69,1,24,.nil⟩) ,
 (71,⟨.struct [(0,1,3),(1,1,3),(2,1,59)],3,40,.agg [.int .i64 0,.int .i64 0,.nil]⟩) ,
 (72,⟨.struct [(0,1,3),(1,1,3),(2,1,59)],3,40,.agg [.int .i64 0,.int .i64 0,.nil]⟩) ,
 (75,⟨.slice 98,1,24,.nil⟩) ,
 (76,⟨.struct [(0,1,3),(1,1,3),(2,1,75)],3,40,.agg [.int .i64 0,.int .i64 0,.nil]⟩) ,
 (77,⟨.struct [(0,1,3),(1,1,3),(2,1,75)],3,40,.agg [.int .i64 0,.int .i64 0,.nil]⟩) ,
 (80,⟨.int .u64,1,8,.int .u64 0⟩) ,
 (81,⟨.struct [(0,1,80),(1,1,80)],2,16,.agg [.int .u64 0,.int .u64 0]⟩) ,
 (82,⟨.struct [(0,1,80),(1,1,80)],2,16,.agg [.int .u64 0,.int .u64 0]⟩) ,
 (88,⟨.struct [(0,1,22),(1,1,3),(2,1,80)],3,40,.agg [.nil,.int .i64 0,.int .u64 0]⟩) ,
 (89,⟨.struct [(0,1,22),(1,1,3),(2,1,80)],3,40,.agg [.nil,.int .i64 0,.int .u64 0]⟩) ,
 (91,⟨.int .u64,1,8,.int .u64 0⟩) ,
 (93,⟨.slice 80,1,24,.nil⟩) ,
 (94,⟨.slice 4,1,24,.nil⟩) ,
 (95,⟨.struct [(0,3,77),(3,1,93),(4,1,94)],5,88,.agg [.int .i64 0,.int .i64 0,.nil,.nil,.nil]⟩) ,
 (96,⟨.struct [(0,3,77),(3,1,93),(4,1,94)],5,88,.agg [.int .i64 0,.int .i64 0,.nil,.nil,.nil]⟩) ,
 (97,⟨.struct [(0,1,3),(1,1,93)],2,32,.agg [.int .i64 0,.nil]⟩) ,
 (98,⟨.struct [(0,1,3),(1,1,93)],2,32,.agg [.int .i64 0,.nil]⟩) ,
 (101,⟨.struct [(0,1,3),(1,1,3)],2,16,.agg [.int .i64 0,.int .i64 0]⟩) ,
 (102,⟨.struct [(0,1,3),(1,1,3)],2,16,.agg [.int .i64 0,.int .i64 0]⟩) ,
 (103,⟨.struct [(0,2,102),(2,2,102),(4,1,3),(5,1,3),(6,1,4)],7,56,.agg [.int .i64 0,.int .i64 0,.int .i64 0,.int .i64 0,.int .i64 0,.int .i64 0,.lit false]⟩) ,
 (104,⟨.struct [(0,2,102),(2,2,102),(4,1,3),(5,1,3),(6,1,4)],7,56,.agg [.int .i64 0,.int .i64 0,.int .i64 0,.int .i64 0,.int .i64 0,.int .i64 0,.lit false]⟩) ,
 (108,⟨.struct [(0,2,102),(2,2,102),(4,1,3),(5,1,3)],6,48,.agg [.int .i64 0,.int .i64 0,.int .i64 0,.int .i64 0,.int .i64 0,.int .i64 0]⟩) ,
 (109,⟨.struct [(0,2,102),(2,2,102),(4,1,3),(5,1,3)],6,48,.agg [.int .i64 0,.int .i64 0,.int .i64 0,.int .i64 0,.int .i64 0,.int .i64 0]⟩) ,
 (112,⟨.map 116 4,1,8,.any⟩) ,
 (115,⟨.struct [(0,2,102),(2,2,102)],4,32,.agg [.int .i64 0,.int .i64 0,.int .i64 0,.int .i64 0]⟩) ,
 (116,⟨.struct [(0,2,102),(2,2,102)],4,32,.agg [.int .i64 0,.int .i64 0,.int .i64 0,.int .i64 0]⟩) ,
 (118,⟨.struct [(0,2,102),(2,2,102),(4,1,3)],5,40,.agg [.int .i64 0,.int .i64 0,.int .i64 0,.int .i64 0,.int .i64 0]⟩) ,
 (119,⟨.struct [(0,2,102),(2,2,102),(4,1,3)],5,40,.agg [.int .i64 0,.int .i64 0,.int .i64 0,.int .i64 0,.int .i64 0]⟩) ,
 (123,⟨.slice 45,1,24,.nil⟩) ,
 (124,⟨.struct [(0,1,48),(1,1,123),(2,1,94)],3,72,.agg [.nil,.nil,.nil]⟩) ,
 (125,⟨.struct [(0,1,48),(1,1,123),(2,1,94)],3,72,.agg [.nil,.nil,.nil]⟩) ,
 (128,⟨.slice 102,1,24,.nil⟩) ,
 (137,⟨.map 188 4,1,8,.any⟩) ,
 (138,⟨.struct [(0,1,45),(1,1,137)],2,32,.agg [.nil,.any]⟩) ,
 (139,⟨.struct [(0,1,45),(1,1,137)],2,32,.agg [.nil,.any]⟩) ,
 (142,⟨.map 102 4,1,8,.any⟩) ,
 (174,⟨.slice 176,1,24,.nil⟩) ,
 (175,⟨.struct [(0,2,102),(2,2,102)],4,32,.agg [.int .i64 0,.int .i64 0,.int .i64 0,.int .i64 0]⟩) ,
 (176,⟨.struct [(0,2,102),(2,2,102)],4,32,.agg [.int .i64 0,.int .i64 0,.int .i64 0,.int .i64 0]⟩) ,
 (187,⟨.struct [(0,2,102),(2,2,102)],4,32,.agg [.int .i64 0,.int .i64 0,.int .i64 0,.int .i64 0]⟩) ,
 (188,⟨.struct [(0,2,102),(2,2,102)],4,32,.agg [.int .i64 0,.int .i64 0,.int .i64 0,.int .i64 0]⟩) ,
 (192,⟨.func,1,8,.nilfn⟩) ,
 (193,⟨.func,1,8,.nilfn⟩) ,
 (194,⟨.func,1,8,.nilfn⟩) ,
 (195,⟨.struct [(0,1,9),(1,1,192),(2,1,193),(3,1,194)],4,40,.agg [.str [],.nilfn,.nilfn,.nilfn]⟩) ,
 (196,⟨.struct [(0,1,9),(1,1,192),(2,1,193),(3,1,194)],4,40,.agg [.str [],.nilfn,.nilfn,.nilfn]⟩) ,
 (207,⟨.arr 6 3,6,48,.vec 6 fun _=>.int .i64 0⟩) ,
 (214,⟨.struct [(0,1,9),(1,1,9)],2,32,.agg [.str [],.str []]⟩) ,
 (215,⟨.struct [(0,1,9),(1,1,9)],2,32,.agg [.str [],.str []]⟩) ,
 (222,⟨.arr 3 3,3,24,.vec 3 fun _=>.int .i64 0⟩) ,
 (226,⟨.ptr 228,1,8,.null⟩) ,
 (227,⟨.struct [(0,2,139),(2,1,128),(3,1,48),(4,1,4),(5,1,48),(6,1,3)],7,120,.agg [.nil,.any,.nil,.nil,.lit false,.nil,.int .i64 0]⟩) ,
 (228,⟨.struct [(0,2,139),(2,1,128),(3,1,48),(4,1,4),(5,1,48),(6,1,3)],7,120,.agg [.nil,.any,.nil,.nil,.lit false,.nil,.int .i64 0]⟩) ,
 (230,⟨.map 102 128,1,8,.any⟩) ,
 (236,⟨.func,1,8,.nilfn⟩) ,
 (238,⟨.map 102 102,1,8,.any⟩) ,
 (239,⟨.map 102 102,1,8,.any⟩) ,
 (241,⟨.map 102 3,1,8,.any⟩) ,
 (248,⟨.int .i64,1,8,.int .i64 0⟩) ,
 (255,⟨.int .u32,1,4,.int .u32 0⟩) ,
 (258,⟨.arr 5 196,20,200,.agg [.str [],.nilfn,.nilfn,.nilfn,.str [],.nilfn,.nilfn,.nilfn,.str [],.nilfn,.nilfn,.nilfn,.str [],.nilfn,.nilfn,.nilfn,.str [],.nilfn,.nilfn,.nilfn]⟩) ,
 (262,⟨.struct [(0,1,3),(1,1,4),(2,1,9)],3,32,.agg [.int .i64 0,.lit false,.str []]⟩) ,
 (263,⟨.struct [(0,1,3),(1,1,4),(2,1,9)],3,32,.agg [.int .i64 0,.lit false,.str []]⟩) ,
 (271,⟨.slice 5,1,24,.nil⟩) ,
 (284,⟨.int .u64,1,8,.int .u64 0⟩) ,
 (287,⟨.ptr 3,1,8,.null⟩) ,
 (289,⟨.struct [(0,1,3),(1,1,3),(2,1,3)],3,24,.agg [.int .i64 0,.int .i64 0,.int .i64 0]⟩) ,
 (290,⟨.struct [(0,1,3),(1,1,3),(2,1,3)],3,24,.agg [.int .i64 0,.int .i64 0,.int .i64 0]⟩) ,
 (308,⟨.ptr 284,1,8,.null⟩) ,
 (329,⟨.arr 64 9,64,1024,.vec 64 fun _=>.str []⟩) ,
 (331,⟨.ptr 333,1,8,.null⟩) ,
 (332,⟨.struct [(0,1,331),(1,1,271)],2,32,.agg [.null,.nil]⟩) ,
 (333,⟨.struct [(0,1,331),(1,1,271)],2,32,.agg [.null,.nil]⟩) ,
 (345,⟨.func,1,8,.nilfn⟩) ,
 (360,⟨.ptr 5,1,8,.null⟩) ,
 (361,⟨.slice 363,1,24,.nil⟩) ,
 (362,⟨.struct [(0,1,3),(1,1,3)],2,16,.agg [.int .i64 0,.int .i64 0]⟩) ,
 (363,⟨.struct [(0,1,3),(1,1,3)],2,16,.agg [.int .i64 0,.int .i64 0]⟩) ,
 (372,⟨.struct [(0,1,80),(1,1,80),(2,1,80),(3,1,80)],4,32,.agg [.int .u64 0,.int .u64 0,.int .u64 0,.int .u64 0]⟩) ,
 (373,⟨.struct [(0,1,80),(1,1,80),(2,1,80),(3,1,80)],4,32,.agg [.int .u64 0,.int .u64 0,.int .u64 0,.int .u64 0]⟩) ,
 (376,⟨.arr 24 5,24,24,.vec 24 fun _=>.int .u8 0⟩) ,
 (385,⟨.arr 12 3,12,96,.vec 12 fun _=>.int .i64 0⟩) ,
 (390,⟨.ptr 373,1,8,.null⟩) ,
 (393,⟨.arr 20 80,20,160,.vec 20 fun _=>.int .u64 0⟩) ,
 (394,⟨.arr 65 5,65,65,.vec 65 fun _=>.int .u8 0⟩) ,
 (405,⟨.struct [(0,1,5),(1,1,5)],2,2,.agg [.int .u8 0,.int .u8 0]⟩) ,
 (410,⟨.arr 32 5,32,32,.vec 32 fun _=>.int .u8 0⟩) ,
 (411,⟨.arr 64 5,64,64,.vec 64 fun _=>.int .u8 0⟩) ]
theorem hΓ:TyOK Tryz.prog Γ:=tyOK (by decide +kernel)
theorem hm:Tryz.prog.follows .mixedOrders=true:=by decide +kernel
def ord3:Ords:=[(24,.ph [0] (.ph [1] (.ph [2] (.ph [3] (.ph [4] (.ph [5] (.ph [6] (.ph [7] (.ph [8] (.ph [9] (.ph [10] (.ph [11] (.ph [12] (.ph [13] (.ph [14] (.ph [15] (.ph [16] (.ph [17] (.ph [18] (.ph [19] (.ph [20] (.ph [21] (.ph [22] (.ph [23] (.ph [24] (.ph [25] (.ph [26] (.ph [27] (.ph [28] (.ph [29] (.ph [30,31] (.ph [32] (.qc 33 (.ph [34] (.ph [35,36] (.ph [37] (.qc 38 (.ph [39] (.ph [40,41,43,44,42] (.ph [45] (.qc 46 (.ph [47] (.ph [48] (.ph [49,50,52,55,51,53,56] (.qc 54 (.ph [57] (.ph [58] (.ph [59] (.fin)))))))))))))))))))))))))))))))))))))))))))))))))]
def ord8:Ords:=[(5,.ph [0,2,6,8] (.way 1 (.alt 3 (.alt 4 (.alt 5 (.alt 7 (.ph [12] (.st 9 (.st 10 (.st 11 (.st 13 (.ph [14] (.st 15 (.fin)))))))) 9 (.ph [7,12] (.st 10 (.st 11 (.st 13 (.ph [14] (.st 15 (.fin)))))))) 7 (.st 5 (.ph [12] (.st 9 (.st 10 (.st 11 (.st 13 (.ph [14] (.st 15 (.fin)))))))))) 7 (.st 4 (.st 5 (.ph [12] (.st 9 (.st 10 (.st 11 (.st 13 (.ph [14] (.st 15 (.fin))))))))))) 7 (.st 3 (.st 4 (.st 5 (.ph [12] (.st 9 (.st 10 (.st 11 (.st 13 (.ph [14] (.st 15 (.fin)))))))))))) (.way 3 (.ph [1] (.alt 4 (.alt 5 (.alt 7 (.ph [12] (.st 9 (.st 10 (.st 11 (.st 13 (.ph [14] (.st 15 (.fin)))))))) 9 (.ph [7,12] (.st 10 (.st 11 (.st 13 (.ph [14] (.st 15 (.fin)))))))) 7 (.st 5 (.ph [12] (.st 9 (.st 10 (.st 11 (.st 13 (.ph [14] (.st 15 (.fin)))))))))) 7 (.st 4 (.st 5 (.ph [12] (.st 9 (.st 10 (.st 11 (.st 13 (.ph [14] (.st 15 (.fin)))))))))))) (.way 7 (.alt 1 (.st 3 (.st 4 (.st 5 (.ph [12] (.st 9 (.st 10 (.st 11 (.st 13 (.ph [14] (.st 15 (.fin))))))))))) 3 (.ph [1] (.st 4 (.st 5 (.ph [12] (.st 9 (.st 10 (.st 11 (.st 13 (.ph [14] (.st 15 (.fin)))))))))))) (.non)))))]
def ord9:Ords:=[(2,.ph [0,2] (.alt 1 (.st 3 (.ph [4] (.ph [5] (.st 6 (.fin))))) 3 (.ph [1] (.ph [4] (.ph [5] (.st 6 (.fin)))))))]
def ord11:Ords:=[(11,.ph [0,1,3] (.alt 2 (.st 4 (.st 5 (.st 6 (.ph [7] (.ph [8] (.st 9 (.fin))))))) 4 (.ph [2] (.st 5 (.st 6 (.ph [7] (.ph [8] (.st 9 (.fin))))))))),(19,.ph [0,2,5,7,1] (.way 3 (.way 4 (.ph [6,10] (.st 8 (.st 9 (.st 11 (.ph [12] (.st 13 (.fin))))))) (.way 6 (.alt 4 (.ph [10] (.st 8 (.st 9 (.st 11 (.ph [12] (.st 13 (.fin))))))) 8 (.st 4 (.ph [10] (.st 9 (.st 11 (.ph [12] (.st 13 (.fin)))))))) (.way 8 (.alt 4 (.ph [6,10] (.st 9 (.st 11 (.ph [12] (.st 13 (.fin)))))) 6 (.st 4 (.ph [10] (.st 9 (.st 11 (.ph [12] (.st 13 (.fin)))))))) (.non)))) (.way 6 (.alt 3 (.alt 4 (.ph [10] (.st 8 (.st 9 (.st 11 (.ph [12] (.st 13 (.fin))))))) 8 (.st 4 (.ph [10] (.st 9 (.st 11 (.ph [12] (.st 13 (.fin)))))))) 8 (.st 3 (.st 4 (.ph [10] (.st 9 (.st 11 (.ph [12] (.st 13 (.fin))))))))) (.way 8 (.alt 3 (.alt 4 (.ph [6,10] (.st 9 (.st 11 (.ph [12] (.st 13 (.fin)))))) 6 (.st 4 (.ph [10] (.st 9 (.st 11 (.ph [12] (.st 13 (.fin)))))))) 6 (.st 3 (.st 4 (.ph [10] (.st 9 (.st 11 (.ph [12] (.st 13 (.fin))))))))) (.non)))))]
def ord12:Ords:=[(18,.ph [0,2] (.alt 1 (.st 3 (.ph [4] (.ph [5] (.ph [6] (.st 7 (.fin)))))) 3 (.ph [4] (.ph [1] (.ph [5] (.ph [6] (.st 7 (.fin))))))))]
def ord19:Ords:=[(6,.ph [0,2,5,7,1,3,4] (.ph [6] (.ph [8] (.ph [9] (.ph [10] (.fin)))))),(12,.ph [0,2,5,7,1,3,4] (.ph [6] (.ph [8] (.ph [9] (.qc 10 (.ph [11] (.fin)))))))]
def ord20:Ords:=[(8,.ph [0] (.qc 1 (.ph [2] (.ph [3,5] (.ph [4] (.qc 6 (.ph [7] (.ph [8] (.ph [9] (.ph [10] (.ph [11] (.ph [12,13,14,15,16,20,21,17,18,19] (.ph [22] (.qc 23 (.ph [24] (.ph [25] (.ph [26] (.fin))))))))))))))))))]
def ord24:Ords:=[(7,.ph [0,2,4,1] (.ph [3] (.ph [5] (.ph [6] (.qc 7 (.st 8 (.st 9 (.ph [10] (.fin)))))))))]
def ord27:Ords:=[(2,.ph [0,1,2,4,5,6,3] (.ph [7] (.ph [8] (.ph [9] (.fin))))),(3,.ph [0,1,2,4,5,6,3] (.ph [7] (.ph [8] (.ph [9] (.ph [10] (.ph [11] (.fin))))))),(6,.ph [0,1,2,4,5,6,3] (.ph [7] (.ph [8] (.ph [9] (.ph [10] (.fin))))))]
def ord31:Ords:=[(3,.ph [0,1,5,2,3,4] (.ph [6] (.qc 7 (.ph [8] (.fin)))))]
def ord33:Ords:=[(4,.ph [0,2] (.ph [1] (.ph [3] (.ph [4] (.ph [5,6,8] (.ph [7] (.ph [9] (.ph [10] (.ph [11] (.ph [12,13,15,18,20,14,16,17] (.ph [19] (.ph [21] (.ph [22] (.ph [23] (.ph [24] (.fin))))))))))))))))]
def ord40:Ords:=[(16,.ph [0,2,3,6,8,1,4,7,9,10] (.qc 5 (.qc 11 (.ph [12,13,14,16,17] (.qc 15 (.qc 18 (.qc 19 (.ph [20] (.st 21 (.st 22 (.ph [23] (.st 24 (.fin)))))))))))))]
def ord44:Ords:=[(1,.ph [0,1,3,4,2] (.ph [5] (.qc 6 (.ph [7] (.fin)))))]
def ord45:Ords:=[(1,.ph [0,2,5,7,1,3,6,8] (.qc 4 (.qc 9 (.st 10 (.qc 11 (.ph [12] (.fin)))))))]
def ord47:Ords:=[(10,.ph [0] (.ph [1] (.ph [2,3,4,5,6,7] (.ph [8] (.qc 9 (.ph [10] (.ph [11] (.ph [12] (.fin)))))))))]
def ord48:Ords:=[(6,.ph [0,1,2,4,5,6,3] (.ph [7] (.ph [8] (.fin))))]
def ord50:Ords:=[(4,.ph [0,1,2,3,5,6,7,4] (.ph [8] (.qc 9 (.ph [10] (.fin)))))]
def ord60:Ords:=[(4,.ph [0,2] (.qc 1 (.qc 3 (.ph [4] (.ph [5] (.fin))))))]
def ord70:Ords:=[(12,.ph [0] (.ph [1] (.ph [2,3,4,5,6,7,8,10,11,9] (.ph [12] (.ph [13] (.ph [14] (.ph [15] (.fin))))))))]
def ord72:Ords:=[(10,.ph [0] (.ph [1] (.ph [2,3,4,5,6,7,9,10,11,12,13,15,17,8,14,16] (.ph [18] (.qc 19 (.ph [20] (.ph [21] (.ph [22] (.fin)))))))))]
def ord76:Ords:=[(1,.ph [0,1,4,2,3] (.qc 5 (.ph [6] (.st 7 (.ph [8] (.fin))))))]
def ord77:Ords:=[(12,.ph [0,1,4,5] (.way 2 (.way 3 (.ph [6] (.alt 7 (.st 8 (.ph [9] (.st 10 (.fin)))) 8 (.ph [9] (.st 7 (.st 10 (.fin)))))) (.way 6 (.way 3 (.alt 7 (.st 8 (.ph [9] (.st 10 (.fin)))) 8 (.ph [9] (.st 7 (.st 10 (.fin))))) (.way 7 (.alt 3 (.st 8 (.ph [9] (.st 10 (.fin)))) 8 (.st 3 (.ph [9] (.st 10 (.fin))))) (.way 8 (.alt 3 (.ph [9] (.st 7 (.st 10 (.fin)))) 7 (.st 3 (.ph [9] (.st 10 (.fin))))) (.non)))) (.way 8 (.alt 3 (.ph [9] (.ph [6] (.st 7 (.st 10 (.fin))))) 6 (.alt 3 (.ph [9] (.st 7 (.st 10 (.fin)))) 7 (.st 3 (.ph [9] (.st 10 (.fin)))))) (.non)))) (.way 6 (.way 2 (.way 3 (.alt 7 (.st 8 (.ph [9] (.st 10 (.fin)))) 8 (.ph [9] (.st 7 (.st 10 (.fin))))) (.way 7 (.alt 3 (.st 8 (.ph [9] (.st 10 (.fin)))) 8 (.st 3 (.ph [9] (.st 10 (.fin))))) (.way 8 (.alt 3 (.ph [9] (.st 7 (.st 10 (.fin)))) 7 (.st 3 (.ph [9] (.st 10 (.fin))))) (.non)))) (.way 7 (.ph [2] (.alt 3 (.st 8 (.ph [9] (.st 10 (.fin)))) 8 (.st 3 (.ph [9] (.st 10 (.fin)))))) (.way 8 (.alt 2 (.alt 3 (.ph [9] (.st 7 (.st 10 (.fin)))) 7 (.st 3 (.ph [9] (.st 10 (.fin))))) 7 (.ph [2] (.st 3 (.ph [9] (.st 10 (.fin)))))) (.non)))) (.way 8 (.alt 2 (.alt 3 (.ph [9] (.ph [6] (.st 7 (.st 10 (.fin))))) 6 (.alt 3 (.ph [9] (.st 7 (.st 10 (.fin)))) 7 (.st 3 (.ph [9] (.st 10 (.fin)))))) 6 (.alt 2 (.alt 3 (.ph [9] (.st 7 (.st 10 (.fin)))) 7 (.st 3 (.ph [9] (.st 10 (.fin))))) 7 (.ph [2] (.st 3 (.ph [9] (.st 10 (.fin))))))) (.non))))),(26,.ph [0] (.ph [1] (.ph [2] (.ph [3,4,5,6] (.ph [7] (.ph [8] (.ph [9] (.fin))))))))]
def ord78:Ords:=[(10,.ph [0] (.ph [1] (.ph [2,3,4,5,6,7,9,10,11,12,13,15,17,8,14,16] (.ph [18] (.qc 19 (.ph [20] (.ph [21] (.ph [22] (.fin)))))))))]
def ord81:Ords:=[(6,.ph [0,1,2,4,5,6,3] (.ph [7] (.ph [8] (.fin))))]
def ord83:Ords:=[(6,.ph [0,1,2,4,5,6,3] (.ph [7] (.ph [8] (.fin))))]
def ord85:Ords:=[(4,.ph [1,2,3,0] (.ph [4] (.ph [5] (.fin))))]
def ord88:Ords:=[(17,.ph [0] (.ph [1] (.ph [2,3,4,5,6,7,9,10,11,8] (.ph [12] (.st 13 (.ph [14] (.ph [15] (.ph [16] (.fin)))))))))]
def ord94:Ords:=[(1,.ph [0,2,4,6,9,11,14,16,1,3,5,7,10,12,15,17] (.qc 8 (.qc 13 (.qc 18 (.st 19 (.qc 20 (.ph [21] (.fin))))))))]
def ord98:Ords:=[(9,.ph [0,1,4,5,2,6] (.qc 3 (.qc 7 (.ph [8] (.ph [9] (.fin))))))]
def ord100:Ords:=[(6,.ph [1,3,2,4,5,6] (.qc 0 (.ph [7] (.st 8 (.ph [9] (.fin))))))]
def ord105:Ords:=[(6,.ph [1,2,4,0] (.ph [3] (.ph [5] (.ph [6] (.qc 7 (.ph [8,9,10] (.ph [11] (.ph [12] (.fin))))))))),(9,.ph [4,0,1] (.ph [2] (.qc 3 (.qc 5 (.ph [6] (.ph [7] (.st 8 (.ph [9] (.fin)))))))))]
def ord112:Ords:=[(4,.ph [0] (.ph [1] (.qc 2 (.ph [3] (.ph [4] (.ph [5] (.ph [6] (.qc 7 (.ph [8] (.ph [9] (.ph [10] (.ph [11] (.ph [12] (.ph [13,14,15,16,17,18,20,19] (.ph [21] (.ph [22] (.ph [23] (.ph [24] (.ph [25,26] (.ph [27] (.ph [28] (.qc 29 (.ph [30] (.ph [31] (.fin)))))))))))))))))))))))))]
def ord123:Ords:=[(1,.ph [0,1,3,4] (.qc 2 (.qc 5 (.st 6 (.qc 7 (.ph [8] (.fin)))))))]
def ord138:Ords:=[(6,.ph [0,1,2,4,5,6,7,3] (.ph [8] (.ph [9] (.fin)))),(11,.ph [0,1,2,4,5,6,7,3] (.ph [8] (.ph [9] (.fin))))]
def ord140:Ords:=[(4,.ph [0] (.ph [1] (.ph [2] (.ph [3,4,5,6,7,9,10,11,12,8] (.ph [13] (.st 14 (.ph [15] (.ph [16] (.fin))))))))),(6,.ph [0,1,2,3,4,5,6,7,8,10,11,12,9] (.ph [13] (.ph [14] (.st 15 (.ph [16] (.st 17 (.fin)))))))]
def ord157:Ords:=[(14,.ph [0,2,3,6,7,8] (.ph [1] (.ph [4] (.ph [5] (.ph [9] (.ph [10] (.st 11 (.fin))))))))]
def ord158:Ords:=[(1,.ph [1,0] (.ph [2] (.qc 3 (.ph [4] (.qc 5 (.st 6 (.fin)))))))]
def ord159:Ords:=[(3,.ph [0,2,3,4] (.way 1 (.alt 5 (.ph [6] (.st 7 (.st 8 (.fin)))) 7 (.st 5 (.ph [6] (.st 8 (.fin))))) (.way 5 (.ph [1,6] (.st 7 (.st 8 (.fin)))) (.way 7 (.alt 1 (.st 5 (.ph [6] (.st 8 (.fin)))) 5 (.ph [1] (.ph [6] (.st 8 (.fin))))) (.non))))),(7,.ph [0,2,3,4,5,7,6,8,9] (.alt 1 (.st 10 (.ph [11] (.st 12 (.fin)))) 10 (.ph [1] (.ph [11] (.st 12 (.fin))))))]
def ord172:Ords:=[(1,.ph [0,2,5,7,1,3,4] (.ph [6] (.ph [8] (.ph [9] (.ph [10] (.st 11 (.fin)))))))]
def ord173:Ords:=[(1,.ph [0,1,3,4,2] (.ph [5] (.qc 6 (.ph [7] (.fin)))))]
def ord175:Ords:=[(6,.ph [0,1,2,4,5,6,7,3] (.ph [8] (.ph [9] (.fin)))),(11,.ph [0,1,2,4,5,6,7,3] (.ph [8] (.ph [9] (.fin))))]
def ord177:Ords:=[(1,.ph [0,1,2,3,4] (.ph [5] (.qc 6 (.ph [7] (.fin)))))]
def ord193:Ords:=[(3,.ph [0,1,2,3] (.ph [4] (.ph [5] (.qc 6 (.ph [7] (.ph [8] (.st 9 (.ph [10] (.fin)))))))))]
def ord203:Ords:=[(4,.ph [0,5,1] (.way 2 (.ph [3] (.ph [4] (.qc 6 (.ph [7] (.ph [8] (.fin)))))) (.way 3 (.alt 2 (.ph [4] (.qc 6 (.ph [7] (.ph [8] (.fin))))) 4 (.way 2 (.qc 6 (.ph [7] (.ph [8] (.fin)))) (.qw 6 (.st 2 (.ph [7] (.ph [8] (.fin)))) (.non)))) (.way 4 (.alt 2 (.ph [3] (.qc 6 (.ph [7] (.ph [8] (.fin))))) 3 (.way 2 (.qc 6 (.ph [7] (.ph [8] (.fin)))) (.qw 6 (.st 2 (.ph [7] (.ph [8] (.fin)))) (.non)))) (.non)))))]
def ord204:Ords:=[(1,.ph [1,5,0,4] (.alt 2 (.qw 3 (.st 6 (.qc 7 (.ph [8] (.st 9 (.fin))))) (.way 6 (.qc 3 (.qc 7 (.ph [8] (.st 9 (.fin))))) (.non))) 6 (.st 2 (.qc 3 (.qc 7 (.ph [8] (.st 9 (.fin))))))))]
def ord210:Ords:=[(4,.ph [0] (.ph [1] (.ph [2] (.ph [3,4,5,6,7,9,10,11,12,8] (.ph [13] (.st 14 (.ph [15] (.ph [16] (.fin))))))))),(6,.ph [0,1,2,3,4,5,6,7,8,10,11,12,9] (.ph [13] (.ph [14] (.st 15 (.ph [16] (.st 17 (.fin)))))))]
def ord211:Ords:=[(5,.ph [0,1,2,3,5,6,7,4] (.ph [8] (.st 9 (.ph [10] (.fin))))),(11,.ph [0,1,2,3,4,5,6,7,8,10,11,12,9] (.ph [13] (.ph [14] (.st 15 (.ph [16] (.st 17 (.fin))))))),(17,.ph [0,1,2,3,5,6,7,4] (.ph [8] (.st 9 (.ph [10] (.ph [11] (.fin)))))),(23,.ph [0,1,2,3,4,5,6,7,8,10,11,12,9] (.ph [13] (.ph [14] (.st 15 (.ph [16] (.st 17 (.fin))))))),(35,.ph [0,1,2,3,4,5,7,8,9,6] (.ph [10] (.st 11 (.ph [12] (.ph [13] (.fin))))))]
def ord227:Ords:=[(3,.ph [0,1,2,3] (.ph [4] (.ph [5] (.qc 6 (.ph [7] (.ph [8] (.st 9 (.ph [10] (.fin))))))))),(5,.ph [0,1,2,3] (.ph [4] (.ph [5] (.qc 6 (.ph [7] (.ph [8] (.st 9 (.ph [10] (.fin))))))))),(7,.ph [0,1,2,3] (.ph [4] (.ph [5] (.qc 6 (.ph [7] (.ph [8] (.st 9 (.ph [10] (.fin)))))))))]
def ord228:Ords:=[(3,.ph [0,3,6,1] (.way 2 (.ph [4] (.alt 5 (.ph [7] (.st 8 (.st 9 (.ph [10] (.ph [11] (.fin)))))) 7 (.st 5 (.st 8 (.st 9 (.ph [10] (.ph [11] (.fin)))))))) (.way 4 (.alt 2 (.alt 5 (.ph [7] (.st 8 (.st 9 (.ph [10] (.ph [11] (.fin)))))) 7 (.st 5 (.st 8 (.st 9 (.ph [10] (.ph [11] (.fin))))))) 7 (.st 2 (.st 5 (.st 8 (.st 9 (.ph [10] (.ph [11] (.fin)))))))) (.way 7 (.alt 2 (.ph [4] (.st 5 (.st 8 (.st 9 (.ph [10] (.ph [11] (.fin))))))) 4 (.st 2 (.st 5 (.st 8 (.st 9 (.ph [10] (.ph [11] (.fin)))))))) (.non)))))]
def ord235:Ords:=[(1,.ph [1,4,0,5,6] (.alt 2 (.qw 3 (.ph [7,8] (.st 9 (.st 10 (.fin)))) (.way 9 (.qc 3 (.ph [7] (.ph [8] (.st 10 (.fin))))) (.non))) 9 (.st 2 (.qc 3 (.ph [7] (.ph [8] (.st 10 (.fin)))))))),(2,.ph [1,4,0,5,6,7] (.alt 2 (.qw 3 (.ph [8,9,10] (.st 11 (.st 12 (.fin)))) (.way 11 (.qc 3 (.ph [8] (.ph [9] (.ph [10] (.st 12 (.fin)))))) (.non))) 11 (.st 2 (.qc 3 (.ph [8] (.ph [9] (.ph [10] (.st 12 (.fin)))))))))]
def ord255:Ords:=[(1,.ph [0,1,2,5,6,7,3] (.alt 4 (.ph [8] (.ph [9] (.st 10 (.ph [11] (.fin))))) 8 (.ph [9] (.st 4 (.st 10 (.ph [11] (.fin)))))))]
def ord261:Ords:=[(1,.ph [0] (.ph [1] (.ph [2] (.ph [3] (.ph [4] (.ph [5] (.ph [6] (.ph [7] (.ph [8] (.ph [9] (.ph [10] (.ph [11] (.ph [12] (.ph [13] (.ph [14] (.ph [15] (.ph [16] (.ph [17] (.ph [18] (.ph [19] (.ph [20] (.ph [21] (.ph [22] (.ph [23,24,26,28,25,27] (.ph [29] (.qc 30 (.ph [31] (.ph [32] (.ph [33] (.fin))))))))))))))))))))))))))))))]
def ord266:Ords:=[(1,.ph [4,0] (.way 1 (.way 2 (.ph [3] (.alt 5 (.ph [6] (.st 7 (.st 8 (.fin)))) 7 (.ph [5] (.ph [6] (.st 8 (.fin)))))) (.way 5 (.alt 2 (.ph [3,6] (.st 7 (.st 8 (.fin)))) 7 (.ph [2] (.ph [3] (.ph [6] (.st 8 (.fin)))))) (.way 7 (.ph [2,3] (.ph [5] (.ph [6] (.st 8 (.fin))))) (.non)))) (.way 2 (.way 1 (.ph [3] (.alt 5 (.ph [6] (.st 7 (.st 8 (.fin)))) 7 (.ph [5] (.ph [6] (.st 8 (.fin)))))) (.way 5 (.alt 1 (.ph [3,6] (.st 7 (.st 8 (.fin)))) 7 (.ph [1] (.ph [3] (.ph [6] (.st 8 (.fin)))))) (.way 7 (.ph [1,3] (.ph [5] (.ph [6] (.st 8 (.fin))))) (.non)))) (.way 5 (.way 1 (.alt 2 (.ph [3,6] (.st 7 (.st 8 (.fin)))) 7 (.ph [2] (.ph [3] (.ph [6] (.st 8 (.fin)))))) (.way 2 (.alt 1 (.ph [3,6] (.st 7 (.st 8 (.fin)))) 7 (.ph [1] (.ph [3] (.ph [6] (.st 8 (.fin)))))) (.way 7 (.ph [1] (.ph [2] (.ph [3] (.ph [6] (.st 8 (.fin)))))) (.non)))) (.way 7 (.ph [1,2,3] (.ph [5] (.ph [6] (.st 8 (.fin))))) (.non))))))]
def ord272:Ords:=[(3,.ph [0,1,2,3,4,5,6,7,8,9,10,11,12,14,15,16,17,18,13] (.ph [19] (.ph [20] (.st 21 (.ph [22] (.st 23 (.fin)))))))]
def ord287:Ords:=[(2,.ph [0,1,2,4,5,6,3] (.ph [7] (.ph [8] (.ph [9] (.ph [10] (.st 11 (.fin))))))),(3,.ph [0,1,2,3,6,7,8,4,9] (.qc 5 (.ph [10] (.ph [11] (.ph [12] (.st 13 (.fin))))))),(5,.ph [0,1,2,4,5,6,3] (.ph [7] (.ph [8] (.ph [9] (.ph [10] (.st 11 (.fin))))))),(6,.ph [0,1,2,3,6,7,8,4,9] (.qc 5 (.ph [10] (.ph [11] (.ph [12] (.st 13 (.fin))))))),(7,.ph [0,1,2,4,5,6,3] (.ph [7] (.ph [8] (.ph [9] (.ph [10] (.st 11 (.fin))))))),(8,.ph [0,1,2,3,6,7,8,4,9] (.qc 5 (.ph [10] (.ph [11] (.ph [12] (.st 13 (.fin))))))),(9,.ph [0,1,2,4,5,6,3] (.ph [7] (.ph [8] (.ph [9] (.ph [10] (.st 11 (.fin))))))),(10,.ph [0,1,2,3,6,7,8,4,9] (.qc 5 (.ph [10] (.ph [11] (.ph [12] (.st 13 (.fin)))))))]
theorem bytes_2:(Γ.get 2).bytes=8:=rfl
theorem bytes_3:(Γ.get 3).bytes=8:=rfl
theorem bytes_4:(Γ.get 4).bytes=1:=rfl
theorem bytes_5:(Γ.get 5).bytes=1:=rfl
theorem bytes_9:(Γ.get 9).bytes=16:=rfl
theorem bytes_12:(Γ.get 12).bytes=8:=rfl
theorem bytes_21:(Γ.get 21).bytes=4:=rfl
theorem bytes_22:(Γ.get 22).bytes=24:=rfl
theorem bytes_25:(Γ.get 25).bytes=8:=rfl
theorem bytes_28:(Γ.get 28).bytes=56:=rfl
theorem bytes_29:(Γ.get 29).bytes=56:=rfl
theorem bytes_31:(Γ.get 31).bytes=16:=rfl
theorem bytes_32:(Γ.get 32).bytes=16:=rfl
theorem bytes_34:(Γ.get 34).bytes=24:=rfl
theorem bytes_36:(Γ.get 36).bytes=24:=rfl
theorem bytes_38:(Γ.get 38).bytes=24:=rfl
theorem bytes_41:(Γ.get 41).bytes=24:=rfl
theorem bytes_42:(Γ.get 42).bytes=8:=rfl
theorem bytes_45:(Γ.get 45).bytes=24:=rfl
theorem bytes_48:(Γ.get 48).bytes=24:=rfl
theorem bytes_49:(Γ.get 49).bytes=56:=rfl
theorem bytes_50:(Γ.get 50).bytes=56:=rfl
theorem bytes_59:(Γ.get 59).bytes=24:=rfl
theorem bytes_60:(Γ.get 60).bytes=24:=rfl
theorem bytes_61:(Γ.get 61).bytes=72:=rfl
theorem bytes_62:(Γ.get 62).bytes=72:=rfl
theorem bytes_63:(Γ.get 63).bytes=24:=rfl
theorem bytes_64:(Γ.get 64).bytes=24:=rfl
theorem bytes_65:(Γ.get 65).bytes=24:=rfl
theorem bytes_66:(Γ.get 66).bytes=96:=rfl
theorem bytes_67:(Γ.get 67).bytes=96:=rfl
theorem bytes_68:(Γ.get 68).bytes=24:=rfl
theorem bytes_69:(Γ.get 69).bytes=24:=rfl
theorem bytes_70:(Γ.get 70).bytes=24:=rfl
theorem bytes_71:(Γ.get 71).bytes=40:=rfl
theorem bytes_72:(Γ.get 72).bytes=40:=rfl
theorem bytes_75:(Γ.get 75).bytes=24:=rfl
theorem bytes_76:(Γ.get 76).bytes=40:=rfl
theorem bytes_77:(Γ.get 77).bytes=40:=rfl
theorem bytes_80:(Γ.get 80).bytes=8:=rfl
theorem bytes_81:(Γ.get 81).bytes=16:=rfl
theorem bytes_82:(Γ.get 82).bytes=16:=rfl
theorem bytes_88:(Γ.get 88).bytes=40:=rfl
theorem bytes_89:(Γ.get 89).bytes=40:=rfl
theorem bytes_91:(Γ.get 91).bytes=8:=rfl
theorem bytes_93:(Γ.get 93).bytes=24:=rfl
theorem bytes_94:(Γ.get 94).bytes=24:=rfl
theorem bytes_95:(Γ.get 95).bytes=88:=rfl
theorem bytes_96:(Γ.get 96).bytes=88:=rfl
theorem bytes_97:(Γ.get 97).bytes=32:=rfl
theorem bytes_98:(Γ.get 98).bytes=32:=rfl
theorem bytes_101:(Γ.get 101).bytes=16:=rfl
theorem bytes_102:(Γ.get 102).bytes=16:=rfl
theorem bytes_103:(Γ.get 103).bytes=56:=rfl
theorem bytes_104:(Γ.get 104).bytes=56:=rfl
theorem bytes_108:(Γ.get 108).bytes=48:=rfl
theorem bytes_109:(Γ.get 109).bytes=48:=rfl
theorem bytes_112:(Γ.get 112).bytes=8:=rfl
theorem bytes_115:(Γ.get 115).bytes=32:=rfl
theorem bytes_116:(Γ.get 116).bytes=32:=rfl
theorem bytes_118:(Γ.get 118).bytes=40:=rfl
theorem bytes_119:(Γ.get 119).bytes=40:=rfl
theorem bytes_123:(Γ.get 123).bytes=24:=rfl
theorem bytes_124:(Γ.get 124).bytes=72:=rfl
theorem bytes_125:(Γ.get 125).bytes=72:=rfl
theorem bytes_128:(Γ.get 128).bytes=24:=rfl
theorem bytes_137:(Γ.get 137).bytes=8:=rfl
theorem bytes_138:(Γ.get 138).bytes=32:=rfl
theorem bytes_139:(Γ.get 139).bytes=32:=rfl
theorem bytes_142:(Γ.get 142).bytes=8:=rfl
theorem bytes_174:(Γ.get 174).bytes=24:=rfl
theorem bytes_175:(Γ.get 175).bytes=32:=rfl
theorem bytes_176:(Γ.get 176).bytes=32:=rfl
theorem bytes_187:(Γ.get 187).bytes=32:=rfl
theorem bytes_188:(Γ.get 188).bytes=32:=rfl
theorem bytes_192:(Γ.get 192).bytes=8:=rfl
theorem bytes_193:(Γ.get 193).bytes=8:=rfl
theorem bytes_194:(Γ.get 194).bytes=8:=rfl
theorem bytes_195:(Γ.get 195).bytes=40:=rfl
theorem bytes_196:(Γ.get 196).bytes=40:=rfl
theorem bytes_207:(Γ.get 207).bytes=48:=rfl
theorem bytes_214:(Γ.get 214).bytes=32:=rfl
theorem bytes_215:(Γ.get 215).bytes=32:=rfl
theorem bytes_222:(Γ.get 222).bytes=24:=rfl
theorem bytes_226:(Γ.get 226).bytes=8:=rfl
theorem bytes_227:(Γ.get 227).bytes=120:=rfl
theorem bytes_228:(Γ.get 228).bytes=120:=rfl
theorem bytes_230:(Γ.get 230).bytes=8:=rfl
theorem bytes_236:(Γ.get 236).bytes=8:=rfl
theorem bytes_238:(Γ.get 238).bytes=8:=rfl
theorem bytes_239:(Γ.get 239).bytes=8:=rfl
theorem bytes_241:(Γ.get 241).bytes=8:=rfl
theorem bytes_248:(Γ.get 248).bytes=8:=rfl
theorem bytes_255:(Γ.get 255).bytes=4:=rfl
theorem bytes_258:(Γ.get 258).bytes=200:=rfl
theorem bytes_262:(Γ.get 262).bytes=32:=rfl
theorem bytes_263:(Γ.get 263).bytes=32:=rfl
theorem bytes_271:(Γ.get 271).bytes=24:=rfl
theorem bytes_284:(Γ.get 284).bytes=8:=rfl
theorem bytes_287:(Γ.get 287).bytes=8:=rfl
theorem bytes_289:(Γ.get 289).bytes=24:=rfl
theorem bytes_290:(Γ.get 290).bytes=24:=rfl
theorem bytes_308:(Γ.get 308).bytes=8:=rfl
theorem bytes_329:(Γ.get 329).bytes=1024:=rfl
theorem bytes_331:(Γ.get 331).bytes=8:=rfl
theorem bytes_332:(Γ.get 332).bytes=32:=rfl
theorem bytes_333:(Γ.get 333).bytes=32:=rfl
theorem bytes_345:(Γ.get 345).bytes=8:=rfl
theorem bytes_360:(Γ.get 360).bytes=8:=rfl
theorem bytes_361:(Γ.get 361).bytes=24:=rfl
theorem bytes_362:(Γ.get 362).bytes=16:=rfl
theorem bytes_363:(Γ.get 363).bytes=16:=rfl
theorem bytes_372:(Γ.get 372).bytes=32:=rfl
theorem bytes_373:(Γ.get 373).bytes=32:=rfl
theorem bytes_376:(Γ.get 376).bytes=24:=rfl
theorem bytes_385:(Γ.get 385).bytes=96:=rfl
theorem bytes_390:(Γ.get 390).bytes=8:=rfl
theorem bytes_393:(Γ.get 393).bytes=160:=rfl
theorem bytes_394:(Γ.get 394).bytes=65:=rfl
theorem bytes_405:(Γ.get 405).bytes=2:=rfl
theorem bytes_410:(Γ.get 410).bytes=32:=rfl
theorem bytes_411:(Γ.get 411).bytes=64:=rfl
theorem Cw {x y:Code} {nt:Nt} {st:St} {K:Sx.Ex->St->Prop} (ords:Ords) (cuts:List Nat) {α:Type} (sl:α->List (Nat × D)) (bx:α->List (Nat × Box)) (nxt:Nat) (φ:α->Prop) (hx:Step (WX Tryz.prog Γ nt ords cuts x st (thenW K fun st=>Again φ fun y=>mtS st (sl y) (bx y) nxt))) (hy:∀ z,φ z->Step (WX Tryz.prog Γ nt ords cuts y (mkSt (sl z) (bx z) nxt) K)) (ho:(ordsOK ords x&&ordsOK ords y)=true:=by kernel_rfl):CodeOK Tryz.prog nt (.seq x y) st K:=.cutW hΓ hm ords cuts ho sl bx nxt φ hx hy
abbrev Cr (g:FuncId) (l:List D) (r0:D):Prop:=Ct Tryz.prog g l fun r outs=>r=r0/\outs = []
theorem Lw {b:Code} {nt:Nt} {st:St} {K:Sx.Ex->St->Prop} (ords:Ords) (cuts:List Nat) {α:Type} (sl:α->List (Nat × D)) (bx:α->List (Nat × Box)) (nxt:Nat) (φ:α->Prop) (μ:α->Nat) (h0:Again φ fun x=>mtS st (sl x) (bx x) nxt) (hb:∀ x,φ x->Step (WX Tryz.prog Γ nt ords cuts b (mkSt (sl x) (bx x) nxt) (thenW K fun st=>Again (fun y=>φ y/\μ y<μ x) fun y=>mtS st (sl y) (bx y) nxt))) (ho:ordsOK ords b=true:=by kernel_rfl):CodeOK Tryz.prog nt (.loop b) st K:=.loopW hΓ hm ords cuts ho sl bx nxt φ μ h0 hb
theorem Vb {p k:Prop} (hk:Step k) (h:p:=by simp only [bytes_2,bytes_3,bytes_4,bytes_5,bytes_9,bytes_12,bytes_21,bytes_22,bytes_25,bytes_28,bytes_29,bytes_31,bytes_32,bytes_34,bytes_36,bytes_38,bytes_41,bytes_42,bytes_45,bytes_48,bytes_49,bytes_50,bytes_59,bytes_60,bytes_61,bytes_62,bytes_63,bytes_64,bytes_65,bytes_66,bytes_67,bytes_68,bytes_69,bytes_70,bytes_71,bytes_72,bytes_75,bytes_76,bytes_77,bytes_80,bytes_81,bytes_82,bytes_88,bytes_89,bytes_91,bytes_93,bytes_94,bytes_95,bytes_96,bytes_97,bytes_98,bytes_101,bytes_102,bytes_103,bytes_104,bytes_108,bytes_109,bytes_112,bytes_115,bytes_116,bytes_118,bytes_119,bytes_123,bytes_124,bytes_125,bytes_128,bytes_137,bytes_138,bytes_139,bytes_142,bytes_174,bytes_175,bytes_176,bytes_187,bytes_188,bytes_192,bytes_193,bytes_194,bytes_195,bytes_196,bytes_207,bytes_214,bytes_215,bytes_222,bytes_226,bytes_227,bytes_228,bytes_230,bytes_236,bytes_238,bytes_239,bytes_241,bytes_248,bytes_255,bytes_258,bytes_262,bytes_263,bytes_271,bytes_284,bytes_287,bytes_289,bytes_290,bytes_308,bytes_329,bytes_331,bytes_332,bytes_333,bytes_345,bytes_360,bytes_361,bytes_362,bytes_363,bytes_372,bytes_373,bytes_376,bytes_385,bytes_390,bytes_393,bytes_394,bytes_405,bytes_410,bytes_411,true_and,and_true]<;>omega):Vc p k:=⟨h,hk.out⟩
theorem De {f:FuncId} {fn:Func} {args:List D} {R:D->List D->Prop} (hf:Tryz.prog.funcs[f]? = some fn) (ords:Ords) (cuts:List Nat) (h:Step (fnW Tryz.prog Γ fn ords cuts args R)) (ho:fnOrd fn ords=true:=by kernel_rfl):Ct Tryz.prog f args R:=.of_W hΓ hm hf ords cuts ho h.out
end Kx
open Go Sx Go.Proofs
namespace Kx
structure Dk where
 l:List Int
 at_:Int
 st:Int
 h0:0<=at_
 hl:l.length<=400
def Dk.ls (d:Dk):List D:=[ints d.l,i64 d.at_,u64 d.st]
def Dk.b (d:Dk):D:=.fbox d.ls
theorem few_ct (l:List Int):Cr 5 [ints l] (.bool (decide (l.length<=400))):=by
 refine .det (De Tryz.func5 [] [] ?_)
 repeat' first|refine S0 ?_;conv=>whnf|exact T0|refine T2 ?_ ?_
 all_goals first
  | trivial
  | exact hb h
  | with_reducible rfl
  | with_reducible exact same_rfl
  | omega
  | ((simp only [decide_eq_decide];omega))
theorem new_ct (l:List Int) (hl:l.length<=400):Ct Tryz.prog 6 [ints l] fun r outs=>∃ d:Dk,d.l=l/\r=d.b/\outs = []:=by
 refine .some (De Tryz.func6 [] [] ?_)
 repeat' first|refine S0 ?_;conv=>whnf
 refine Lf.by ⟨l,0,11400714819323198485,by omega,hl⟩ rfl ?_
 repeat' first|refine S0 ?_;conv=>whnf|exact T0|exact T1|refine T2 ?_ ?_
 all_goals first
  | trivial
  | exact hb h
  | with_reducible rfl
  | with_reducible exact same_rfl
  | omega
theorem word_end (d:Dk) (x a s:Int) (hx:0<=x/\x<=18446744073709551615) (ha:0<=a) :
 Lf2 (fun y (_:Dk)=>0<=y/\y<=18446744073709551615) fun y z=>Two (wkD (u64 y) (u64 x) false) (wkL [z.b] [.fbox [ints d.l,i64 a,u64 s]] false):=by
 refine Lf2.by x ⟨d.l,a,s,ha,d.hl⟩ hx ?_
 repeat' first|refine S0 ?_;conv=>whnf|exact T0|exact T1|refine T2 ?_ ?_
theorem word_ct (d:Dk):Ct Tryz.prog 27 [d.b] fun r outs=>∃ x d',(0<=x/\x<=18446744073709551615)/\r=u64 x/\outs = [Dk.b d']:=by
 have h0:=d.h0;have hl:=d.hl;refine .some2 (De Tryz.func27 ord27 [] ?_)
 repeat' first|refine S0 ?_;conv=>whnf|refine Vo ?_|refine W6 ?_|refine Wr.raw ?_|(refine Br.d (fun h=>?_) fun h=>?_)
 ·refine word_end d _ _ _ ?_ ?_
  ·exact wu_in _
  ·omega
 ·refine word_end d _ _ _ ?_ ?_
  ·exact wu_in _
  ·omega
theorem half (x:Int):x.fdiv (2 ^ min (Int.toNat 1) IntKind.u64.bits)=x / 2:=by
 rw [Int.fdiv_eq_ediv_of_nonneg _ (by decide)];rfl
theorem tmod_bd (x n:Int) (h0:0<=x) (h1:¬n<1):0<=x.tmod n/\(n<1->x.tmod n=0)/\(1<=n->x.tmod n<n):=by
 rw [Int.tmod_eq_emod_of_nonneg h0];exact ⟨Int.emod_nonneg _ (by omega),fun h=>absurd h h1,fun h=>Int.emod_lt_of_pos _ (by omega)⟩
theorem next_ct (d:Dk) (n:Int):Ct Tryz.prog 7 [d.b,i64 n] fun r outs=>∃ x d',(0<=x/\(n<1->x=0)/\(1<=n->x<n))/\r=i64 x/\outs = [Dk.b d']:=by
 refine .some2 (De Tryz.func7 [] [] ?_)
 repeat' first|refine S0 ?_;conv=>whnf|refine Vo ?_|refine W6 ?_|(rw [half])|(refine Br.d (fun h=>?_) fun h=>?_)|(refine CallOK.io1 (g:=27) (Step.out ?_))|(refine Met.by (g:=27) (word_ct _) ?_;rintro q outs ⟨x,d,hx,rfl,rfl⟩)
 ·refine Lf2.by 0 d ⟨Int.le_refl 0,fun _=>rfl,fun _=>by omega⟩ ?_
  repeat' first|refine S0 ?_;conv=>whnf|exact T0|exact T1|refine T2 ?_ ?_
 ·refine Lf2.by _ d (tmod_bd (x / 2) n (by omega) h) ?_
  repeat' first|refine S0 ?_;conv=>whnf|exact T0|exact T1|refine T2 ?_ ?_
end Kx
