/-
  The types and the orders of the regions of this program, as the walk reads them.
  No condition beyond those written in each theorem.
-/
import Derived.Test.YtfinddimpfiohaaGreatDoorFC
import Derived.Test.YtfinddimpfiohaaGreatDoorProg
set_option linter.unusedSimpArgs false
set_option linter.unusedVariables false
set_option maxRecDepth 4000
open Go Sx Go.Proofs
namespace Kx
def Γ:Ty:=[
 (2,⟨.int .i64,1,8,.int .i64 0⟩) ,
 (3,⟨.int .i64,1,8,.int .i64 0⟩) ,
 (4,⟨.bool,1,1,.lit false⟩) ,
 (5,⟨.int .u8,1,1,.int .u8 0⟩) ,
 (9,⟨.str,1,16,.str []⟩) ,
 (12,⟨.int .u64,1,8,.int .u64 0⟩) ,
 (21,⟨.int .i32,1,4,.int .i32 0⟩) ,
 (22,⟨.slice 3,1,24,.nil⟩) ,
 (25,⟨.ptr 88,1,8,.null⟩) ,
 (27,⟨.slice 70,1,24,.nil⟩) ,
 (28,⟨.slice 9,1,24,.nil⟩) ,
 (29,⟨.slice 143,1,24,.nil⟩) ,
 (30,⟨.struct [(0,1,28),(1,1,29),(2,1,29)],3,72,.agg [.nil,.nil,.nil]⟩) ,
 (31,⟨.struct [(0,1,28),(1,1,29),(2,1,29)],3,72,.agg [.nil,.nil,.nil]⟩) ,
 (32,⟨.struct [(0,1,27),(1,3,31)],4,96,.agg [.nil,.nil,.nil,.nil]⟩) ,
 (33,⟨.struct [(0,1,27),(1,3,31)],4,96,.agg [.nil,.nil,.nil,.nil]⟩) ,
 (34,⟨.slice 72,1,24,.nil⟩) ,
 (35,⟨.slice 97,1,24,.nil⟩) ,
 (36,⟨.slice 114,1,24,.nil⟩) ,
 (37,⟨.slice 52,1,24,.nil⟩) ,
 (38,⟨.struct [(0,1,3),(1,1,22),(2,1,22)],3,56,.agg [.int .i64 0,.nil,.nil]⟩) ,
 (39,⟨.struct [(0,1,3),(1,1,22),(2,1,22)],3,56,.agg [.int .i64 0,.nil,.nil]⟩) ,
 (40,⟨.struct [(0,1,3),(1,1,3)],2,16,.agg [.int .i64 0,.int .i64 0]⟩) ,
 (41,⟨.struct [(0,1,3),(1,1,3)],2,16,.agg [.int .i64 0,.int .i64 0]⟩) ,
 (42,⟨.slice 100,1,24,.nil⟩) ,
 (43,⟨.int .u64,1,8,.int .u64 0⟩) ,
 (44,⟨.struct [(0,1,43),(1,1,43)],2,16,.agg [.int .u64 0,.int .u64 0]⟩) ,
 (45,⟨.struct [(0,1,43),(1,1,43)],2,16,.agg [.int .u64 0,.int .u64 0]⟩) ,
 (46,⟨.struct [(0,4,33),(4,1,34),(5,1,35),(6,1,36),(7,1,37),(8,1,22),(9,3,39),(12,2,41),(14,1,42),(15,2,45)],17,328,.agg [.nil,.nil,.nil,.nil,.nil,.nil,.nil,.nil,.nil,.int .i64 0,.nil,.nil,.int .i64 0,.int .i64 0,.nil,.int .u64 0,.int .u64 0]⟩) ,
 (47,⟨.struct [(0,4,33),(4,1,34),(5,1,35),(6,1,36),(7,1,37),(8,1,22),(9,3,39),(12,2,41),(14,1,42),(15,2,45)],17,328,.agg [.nil,.nil,.nil,.nil,.nil,.nil,.nil,.nil,.nil,.int .i64 0,.nil,.nil,.int .i64 0,.int .i64 0,.nil,.int .u64 0,.int .u64 0]⟩) ,
 (51,⟨.struct [(0,1,3),(1,1,3),(2,1,3),(3,1,3),(4,1,3)],5,40,.agg [.int .i64 0,.int .i64 0,.int .i64 0,.int .i64 0,.int .i64 0]⟩) ,
 (52,⟨.struct [(0,1,3),(1,1,3),(2,1,3),(3,1,3),(4,1,3)],5,40,.agg [.int .i64 0,.int .i64 0,.int .i64 0,.int .i64 0,.int .i64 0]⟩) ,
 (53,⟨.slice 107,1,24,.nil⟩) ,
 (54,⟨.struct [(0,1,3),(1,1,3),(2,1,3),(3,1,53)],4,48,.agg [.int .i64 0,.int .i64 0,.int .i64 0,.nil]⟩) ,
 (55,⟨.struct [(0,1,3),(1,1,3),(2,1,3),(3,1,53)],4,48,.agg [.int .i64 0,.int .i64 0,.int .i64 0,.nil]⟩) ,
 (56,⟨.slice 55,1,24,.nil⟩) ,
 (58,⟨.slice 74,1,24,.nil⟩) ,
 (59,⟨.int .i64,1,8,.int .i64 0⟩) ,
 (69,⟨.struct [(0,1,9),(1,1,3)],2,24,.agg [.str [],.int .i64 0]⟩) ,
 (70,⟨.struct [(0,1,9),(1,1,3)],2,24,.agg [.str [],.int .i64 0]⟩) ,
 (71,⟨.struct [(0,1,3),(1,1,3),(2,1,3)],3,24,.agg [.int .i64 0,.int .i64 0,.int .i64 0]⟩) ,
 (72,⟨.struct [(0,1,3),(1,1,3),(2,1,3)],3,24,.agg [.int .i64 0,.int .i64 0,.int .i64 0]⟩) ,
 (73,⟨.struct [(0,1,3),(1,1,3),(2,1,28)],3,40,.agg [.int .i64 0,.int .i64 0,.nil]⟩) ,
 (74,⟨.struct [(0,1,3),(1,1,3),(2,1,28)],3,40,.agg [.int .i64 0,.int .i64 0,.nil]⟩) ,
 (77,⟨.slice 117,1,24,.nil⟩) ,
 (78,⟨.struct [(0,1,3),(1,1,3),(2,1,77)],3,40,.agg [.int .i64 0,.int .i64 0,.nil]⟩) ,
 (79,⟨.struct [(0,1,3),(1,1,3),(2,1,77)],3,40,.agg [.int .i64 0,.int .i64 0,.nil]⟩) ,
 (87,⟨.struct [(0,1,22),(1,1,3),(2,1,43)],3,40,.agg [.nil,.int .i64 0,.int .u64 0]⟩) ,
 (88,⟨.struct [(0,1,22),(1,1,3),(2,1,43)],3,40,.agg [.nil,.int .i64 0,.int .u64 0]⟩) ,
 (93,⟨.struct [(0,1,3),(1,1,3)],2,16,.agg [.int .i64 0,.int .i64 0]⟩) ,
 (94,⟨.struct [(0,1,3),(1,1,3)],2,16,.agg [.int .i64 0,.int .i64 0]⟩) ,
 (95,⟨.slice 94,1,24,.nil⟩) ,
 (96,⟨.struct [(0,1,95)],1,24,.agg [.nil]⟩) ,
 (97,⟨.struct [(0,1,95)],1,24,.agg [.nil]⟩) ,
 (99,⟨.struct [(0,1,3),(1,2,45),(3,1,22),(4,1,4)],5,56,.agg [.int .i64 0,.int .u64 0,.int .u64 0,.nil,.lit false]⟩) ,
 (100,⟨.struct [(0,1,3),(1,2,45),(3,1,22),(4,1,4)],5,56,.agg [.int .i64 0,.int .u64 0,.int .u64 0,.nil,.lit false]⟩) ,
 (103,⟨.int .u64,1,8,.int .u64 0⟩) ,
 (106,⟨.struct [(0,1,3),(1,1,3),(2,1,28),(3,1,3),(4,1,3),(5,1,3)],6,64,.agg [.int .i64 0,.int .i64 0,.nil,.int .i64 0,.int .i64 0,.int .i64 0]⟩) ,
 (107,⟨.struct [(0,1,3),(1,1,3),(2,1,28),(3,1,3),(4,1,3),(5,1,3)],6,64,.agg [.int .i64 0,.int .i64 0,.nil,.int .i64 0,.int .i64 0,.int .i64 0]⟩) ,
 (111,⟨.slice 79,1,24,.nil⟩) ,
 (114,⟨.slice 214,1,24,.nil⟩) ,
 (115,⟨.slice 43,1,24,.nil⟩) ,
 (116,⟨.struct [(0,1,3),(1,1,115)],2,32,.agg [.int .i64 0,.nil]⟩) ,
 (117,⟨.struct [(0,1,3),(1,1,115)],2,32,.agg [.int .i64 0,.nil]⟩) ,
 (122,⟨.slice 167,1,24,.nil⟩) ,
 (128,⟨.struct [(0,1,3),(1,1,3),(2,1,3),(3,1,122),(4,1,22)],5,72,.agg [.int .i64 0,.int .i64 0,.int .i64 0,.nil,.nil]⟩) ,
 (129,⟨.struct [(0,1,3),(1,1,3),(2,1,3),(3,1,122),(4,1,22)],5,72,.agg [.int .i64 0,.int .i64 0,.int .i64 0,.nil,.nil]⟩) ,
 (131,⟨.arr 4 3,4,32,.vec 4 fun _=>.int .i64 0⟩) ,
 (142,⟨.struct [(0,1,9),(1,1,9)],2,32,.agg [.str [],.str []]⟩) ,
 (143,⟨.struct [(0,1,9),(1,1,9)],2,32,.agg [.str [],.str []]⟩) ,
 (147,⟨.struct [(0,1,3),(1,1,3),(2,1,3),(3,1,28),(4,1,3),(5,1,3)],6,64,.agg [.int .i64 0,.int .i64 0,.int .i64 0,.nil,.int .i64 0,.int .i64 0]⟩) ,
 (148,⟨.struct [(0,1,3),(1,1,3),(2,1,3),(3,1,28),(4,1,3),(5,1,3)],6,64,.agg [.int .i64 0,.int .i64 0,.int .i64 0,.nil,.int .i64 0,.int .i64 0]⟩) ,
 (154,⟨.slice 204,1,24,.nil⟩) ,
 (156,⟨.slice 221,1,24,.nil⟩) ,
 (165,⟨.slice 4,1,24,.nil⟩) ,
 (166,⟨.struct [(0,3,79),(3,1,115),(4,1,165)],5,88,.agg [.int .i64 0,.int .i64 0,.nil,.nil,.nil]⟩) ,
 (167,⟨.struct [(0,3,79),(3,1,115),(4,1,165)],5,88,.agg [.int .i64 0,.int .i64 0,.nil,.nil,.nil]⟩) ,
 (174,⟨.func,1,8,.nilfn⟩) ,
 (175,⟨.func,1,8,.nilfn⟩) ,
 (176,⟨.func,1,8,.nilfn⟩) ,
 (177,⟨.struct [(0,1,9),(1,1,174),(2,1,175),(3,1,176)],4,40,.agg [.str [],.nilfn,.nilfn,.nilfn]⟩) ,
 (178,⟨.struct [(0,1,9),(1,1,174),(2,1,175),(3,1,176)],4,40,.agg [.str [],.nilfn,.nilfn,.nilfn]⟩) ,
 (188,⟨.arr 6 3,6,48,.vec 6 fun _=>.int .i64 0⟩) ,
 (200,⟨.slice 206,1,24,.nil⟩) ,
 (203,⟨.struct [(0,2,117),(2,1,22)],3,56,.agg [.int .i64 0,.nil,.nil]⟩) ,
 (204,⟨.struct [(0,2,117),(2,1,22)],3,56,.agg [.int .i64 0,.nil,.nil]⟩) ,
 (205,⟨.struct [(0,3,204)],3,56,.agg [.int .i64 0,.nil,.nil]⟩) ,
 (206,⟨.struct [(0,3,204)],3,56,.agg [.int .i64 0,.nil,.nil]⟩) ,
 (213,⟨.struct [(0,1,9),(1,1,3)],2,24,.agg [.str [],.int .i64 0]⟩) ,
 (214,⟨.struct [(0,1,9),(1,1,3)],2,24,.agg [.str [],.int .i64 0]⟩) ,
 (220,⟨.struct [(0,1,3),(1,1,9)],2,24,.agg [.int .i64 0,.str []]⟩) ,
 (221,⟨.struct [(0,1,3),(1,1,9)],2,24,.agg [.int .i64 0,.str []]⟩) ,
 (224,⟨.slice 5,1,24,.nil⟩) ,
 (237,⟨.ptr 239,1,8,.null⟩) ,
 (238,⟨.struct [(0,1,237),(1,1,224)],2,32,.agg [.null,.nil]⟩) ,
 (239,⟨.struct [(0,1,237),(1,1,224)],2,32,.agg [.null,.nil]⟩) ,
 (249,⟨.arr 5 178,20,200,.agg [.str [],.nilfn,.nilfn,.nilfn,.str [],.nilfn,.nilfn,.nilfn,.str [],.nilfn,.nilfn,.nilfn,.str [],.nilfn,.nilfn,.nilfn,.str [],.nilfn,.nilfn,.nilfn]⟩) ,
 (251,⟨.struct [(0,1,3),(1,1,4),(2,1,9)],3,32,.agg [.int .i64 0,.lit false,.str []]⟩) ,
 (252,⟨.struct [(0,1,3),(1,1,4),(2,1,9)],3,32,.agg [.int .i64 0,.lit false,.str []]⟩) ,
 (270,⟨.struct [(0,1,3),(1,1,3),(2,1,3)],3,24,.agg [.int .i64 0,.int .i64 0,.int .i64 0]⟩) ,
 (271,⟨.struct [(0,1,3),(1,1,3),(2,1,3)],3,24,.agg [.int .i64 0,.int .i64 0,.int .i64 0]⟩) ,
 (281,⟨.struct [(0,1,43),(1,1,43),(2,1,43),(3,1,43)],4,32,.agg [.int .u64 0,.int .u64 0,.int .u64 0,.int .u64 0]⟩) ,
 (282,⟨.struct [(0,1,43),(1,1,43),(2,1,43),(3,1,43)],4,32,.agg [.int .u64 0,.int .u64 0,.int .u64 0,.int .u64 0]⟩) ,
 (286,⟨.arr 24 5,24,24,.vec 24 fun _=>.int .u8 0⟩) ,
 (301,⟨.ptr 5,1,8,.null⟩) ,
 (314,⟨.int .i64,1,8,.int .i64 0⟩) ,
 (321,⟨.int .u32,1,4,.int .u32 0⟩) ,
 (323,⟨.ptr 282,1,8,.null⟩) ,
 (326,⟨.arr 20 43,20,160,.vec 20 fun _=>.int .u64 0⟩) ,
 (327,⟨.arr 65 5,65,65,.vec 65 fun _=>.int .u8 0⟩) ,
 (346,⟨.int .u64,1,8,.int .u64 0⟩) ,
 (349,⟨.ptr 3,1,8,.null⟩) ,
 (359,⟨.arr 64 9,64,1024,.vec 64 fun _=>.str []⟩) ,
 (367,⟨.func,1,8,.nilfn⟩) ,
 (380,⟨.ptr 346,1,8,.null⟩) ,
 (383,⟨.arr 32 5,32,32,.vec 32 fun _=>.int .u8 0⟩) ,
 (384,⟨.arr 64 5,64,64,.vec 64 fun _=>.int .u8 0⟩) ,
 (386,⟨.slice 388,1,24,.nil⟩) ,
 (387,⟨.struct [(0,1,3),(1,1,3)],2,16,.agg [.int .i64 0,.int .i64 0]⟩) ,
 (388,⟨.struct [(0,1,3),(1,1,3)],2,16,.agg [.int .i64 0,.int .i64 0]⟩) ,
 (400,⟨.arr 12 3,12,96,.vec 12 fun _=>.int .i64 0⟩) ,
 (414,⟨.struct [(0,1,5),(1,1,5)],2,2,.agg [.int .u8 0,.int .u8 0]⟩) ]
theorem hΓ:TyOK Tryz.prog Γ:=tyOK (by decide +kernel)
theorem hm:Tryz.prog.follows .mixedOrders=true:=by decide +kernel
def ord3:Ords:=[(7,.ph [0,2,3,7,4,5] (.alt 1 (.st 6 (.st 8 (.ph [9] (.ph [10] (.st 11 (.fin)))))) 6 (.alt 1 (.st 8 (.ph [9] (.ph [10] (.st 11 (.fin))))) 8 (.ph [1] (.ph [9] (.ph [10] (.st 11 (.fin)))))))),(10,.ph [0,2,4,6,9,10,1,3,5,7,11] (.qc 8 (.qc 12 (.ph [13,14,15] (.ph [16] (.ph [17] (.fin)))))))]
def ord7:Ords:=[(7,.ph [0,1,3,4,5,7,8,9,2,6] (.ph [10] (.ph [11] (.st 12 (.st 13 (.ph [14] (.ph [15] (.st 16 (.fin))))))))),(18,.ph [0,1,3,8,9,11] (.way 2 (.alt 4 (.ph [5] (.alt 6 (.alt 7 (.alt 10 (.ph [16,17] (.st 12 (.ph [13] (.st 14 (.st 15 (.st 18 (.ph [19] (.ph [20] (.st 21 (.fin)))))))))) 12 (.ph [13,10,16,17] (.st 14 (.st 15 (.st 18 (.ph [19] (.ph [20] (.st 21 (.fin))))))))) 10 (.st 7 (.ph [16,17] (.st 12 (.ph [13] (.st 14 (.st 15 (.st 18 (.ph [19] (.ph [20] (.st 21 (.fin)))))))))))) 10 (.st 6 (.st 7 (.ph [16,17] (.st 12 (.ph [13] (.st 14 (.st 15 (.st 18 (.ph [19] (.ph [20] (.st 21 (.fin)))))))))))))) 10 (.st 4 (.ph [5] (.st 6 (.st 7 (.ph [16,17] (.st 12 (.ph [13] (.st 14 (.st 15 (.st 18 (.ph [19] (.ph [20] (.st 21 (.fin))))))))))))))) (.way 4 (.ph [5,2] (.alt 6 (.alt 7 (.alt 10 (.ph [16,17] (.st 12 (.ph [13] (.st 14 (.st 15 (.st 18 (.ph [19] (.ph [20] (.st 21 (.fin)))))))))) 12 (.ph [13,10,16,17] (.st 14 (.st 15 (.st 18 (.ph [19] (.ph [20] (.st 21 (.fin))))))))) 10 (.st 7 (.ph [16,17] (.st 12 (.ph [13] (.st 14 (.st 15 (.st 18 (.ph [19] (.ph [20] (.st 21 (.fin)))))))))))) 10 (.st 6 (.st 7 (.ph [16,17] (.st 12 (.ph [13] (.st 14 (.st 15 (.st 18 (.ph [19] (.ph [20] (.st 21 (.fin)))))))))))))) (.way 10 (.alt 2 (.st 4 (.ph [5] (.st 6 (.st 7 (.ph [16,17] (.st 12 (.ph [13] (.st 14 (.st 15 (.st 18 (.ph [19] (.ph [20] (.st 21 (.fin)))))))))))))) 4 (.ph [5,2] (.st 6 (.st 7 (.ph [16,17] (.st 12 (.ph [13] (.st 14 (.st 15 (.st 18 (.ph [19] (.ph [20] (.st 21 (.fin)))))))))))))) (.non))))),(20,.ph [0,2,3,5] (.alt 1 (.st 4 (.st 6 (.ph [7] (.ph [8] (.st 9 (.fin)))))) 4 (.alt 1 (.st 6 (.ph [7] (.ph [8] (.st 9 (.fin))))) 6 (.ph [1] (.ph [7] (.ph [8] (.st 9 (.fin)))))))),(25,.ph [0,2,3,4,5] (.alt 1 (.st 6 (.ph [7] (.st 8 (.st 9 (.st 10 (.ph [11] (.st 12 (.fin)))))))) 6 (.ph [7] (.alt 1 (.st 8 (.st 9 (.st 10 (.ph [11] (.st 12 (.fin)))))) 8 (.ph [1] (.st 9 (.st 10 (.ph [11] (.st 12 (.fin))))))))))]
def ord11:Ords:=[(10,.ph [0,1,3,5,2,4] (.ph [6] (.qc 7 (.ph [8] (.st 9 (.st 10 (.ph [11] (.fin))))))))]
def ord12:Ords:=[(21,.ph [0,1,3,8,9,10,11,12,14,2,4,5] (.alt 6 (.alt 7 (.ph [13] (.ph [15] (.ph [16] (.st 17 (.st 18 (.ph [19] (.ph [20] (.fin)))))))) 13 (.ph [15] (.alt 7 (.ph [16] (.st 17 (.st 18 (.ph [19] (.ph [20] (.fin)))))) 16 (.alt 7 (.st 17 (.st 18 (.ph [19] (.ph [20] (.fin))))) 17 (.st 7 (.st 18 (.ph [19] (.ph [20] (.fin))))))))) 13 (.ph [15] (.alt 6 (.alt 7 (.ph [16] (.st 17 (.st 18 (.ph [19] (.ph [20] (.fin)))))) 16 (.alt 7 (.st 17 (.st 18 (.ph [19] (.ph [20] (.fin))))) 17 (.st 7 (.st 18 (.ph [19] (.ph [20] (.fin))))))) 16 (.alt 6 (.alt 7 (.st 17 (.st 18 (.ph [19] (.ph [20] (.fin))))) 17 (.st 7 (.st 18 (.ph [19] (.ph [20] (.fin)))))) 17 (.st 6 (.st 7 (.st 18 (.ph [19] (.ph [20] (.fin)))))))))))]
def ord13:Ords:=[(1,.ph [1,0] (.qc 2 (.ph [3] (.qc 4 (.st 5 (.fin))))))]
def ord15:Ords:=[(7,.ph [0,1,2,3,5] (.qc 4 (.qc 6 (.qc 7 (.ph [8] (.fin))))))]
def ord19:Ords:=[(7,.ph [0,2,4,1] (.ph [3] (.ph [5] (.ph [6] (.qc 7 (.st 8 (.st 9 (.ph [10] (.fin)))))))))]
def ord28:Ords:=[(2,.ph [0,1,2,4,5,6,3] (.ph [7] (.ph [8] (.ph [9] (.fin))))),(3,.ph [0,1,2,4,5,6,3] (.ph [7] (.ph [8] (.ph [9] (.ph [10] (.ph [11] (.fin))))))),(6,.ph [0,1,2,4,5,6,3] (.ph [7] (.ph [8] (.ph [9] (.ph [10] (.fin))))))]
def ord29:Ords:=[(6,.ph [2,3] (.way 0 (.way 1 (.alt 4 (.qw 5 (.ph [6,7,8] (.st 9 (.st 10 (.ph [11] (.fin))))) (.way 9 (.qc 5 (.ph [6,7,8] (.st 10 (.ph [11] (.fin))))) (.non))) 9 (.st 4 (.qc 5 (.ph [6,7,8] (.st 10 (.ph [11] (.fin))))))) (.way 4 (.ph [1] (.qw 5 (.ph [6,7,8] (.st 9 (.st 10 (.ph [11] (.fin))))) (.way 9 (.qc 5 (.ph [6,7,8] (.st 10 (.ph [11] (.fin))))) (.non)))) (.way 9 (.alt 1 (.st 4 (.qc 5 (.ph [6,7,8] (.st 10 (.ph [11] (.fin)))))) 4 (.ph [1] (.qc 5 (.ph [6,7,8] (.st 10 (.ph [11] (.fin))))))) (.non)))) (.way 1 (.way 0 (.alt 4 (.qw 5 (.ph [6,7,8] (.st 9 (.st 10 (.ph [11] (.fin))))) (.way 9 (.qc 5 (.ph [6,7,8] (.st 10 (.ph [11] (.fin))))) (.non))) 9 (.st 4 (.qc 5 (.ph [6,7,8] (.st 10 (.ph [11] (.fin))))))) (.way 4 (.ph [0] (.qw 5 (.ph [6,7,8] (.st 9 (.st 10 (.ph [11] (.fin))))) (.way 9 (.qc 5 (.ph [6,7,8] (.st 10 (.ph [11] (.fin))))) (.non)))) (.way 9 (.alt 0 (.st 4 (.qc 5 (.ph [6,7,8] (.st 10 (.ph [11] (.fin)))))) 4 (.ph [0] (.qc 5 (.ph [6,7,8] (.st 10 (.ph [11] (.fin))))))) (.non)))) (.way 4 (.ph [0,1] (.qw 5 (.ph [6,7,8] (.st 9 (.st 10 (.ph [11] (.fin))))) (.way 9 (.qc 5 (.ph [6,7,8] (.st 10 (.ph [11] (.fin))))) (.non)))) (.way 9 (.way 0 (.alt 1 (.st 4 (.qc 5 (.ph [6,7,8] (.st 10 (.ph [11] (.fin)))))) 4 (.ph [1] (.qc 5 (.ph [6,7,8] (.st 10 (.ph [11] (.fin))))))) (.way 1 (.alt 0 (.st 4 (.qc 5 (.ph [6,7,8] (.st 10 (.ph [11] (.fin)))))) 4 (.ph [0] (.qc 5 (.ph [6,7,8] (.st 10 (.ph [11] (.fin))))))) (.way 4 (.ph [0] (.ph [1] (.qc 5 (.ph [6,7,8] (.st 10 (.ph [11] (.fin))))))) (.non)))) (.non))))))]
def ord30:Ords:=[(10,.ph [0] (.ph [1] (.ph [2,3,4,5,6,7,9,8] (.ph [10] (.ph [11] (.ph [12] (.ph [13] (.fin))))))))]
def ord33:Ords:=[(12,.ph [0] (.ph [1] (.ph [2,3,4,5,6,7,9,8] (.ph [10] (.ph [11] (.ph [12] (.fin)))))))]
def ord36:Ords:=[(1,.ph [1,5,0,4] (.alt 2 (.qw 3 (.st 6 (.qc 7 (.ph [8] (.st 9 (.fin))))) (.way 6 (.qc 3 (.qc 7 (.ph [8] (.st 9 (.fin))))) (.non))) 6 (.st 2 (.qc 3 (.qc 7 (.ph [8] (.st 9 (.fin))))))))]
def ord49:Ords:=[(4,.ph [0,2] (.qc 1 (.qc 3 (.ph [4] (.ph [5] (.fin))))))]
def ord57:Ords:=[(7,.ph [0,2,3,4,6,5,7,8,9] (.alt 1 (.st 10 (.st 11 (.st 12 (.ph [13] (.st 14 (.fin)))))) 10 (.ph [1] (.st 11 (.st 12 (.ph [13] (.st 14 (.fin))))))))]
def ord65:Ords:=[(9,.ph [0,1,3,2] (.ph [4] (.qc 5 (.ph [6] (.ph [7] (.ph [8] (.st 9 (.st 10 (.ph [11] (.fin))))))))))]
def ord67:Ords:=[(12,.ph [0,1,2,4,3] (.ph [5] (.ph [6] (.fin))))]
def ord71:Ords:=[(6,.ph [0,4,7,1,5,8,9] (.qc 2 (.ph [3] (.ph [6] (.ph [10] (.ph [11] (.ph [12] (.fin))))))))]
def ord75:Ords:=[(7,.ph [0,2,5,7,1] (.way 3 (.way 4 (.ph [6,10] (.st 8 (.st 9 (.st 11 (.ph [12] (.st 13 (.fin))))))) (.way 6 (.alt 4 (.ph [10] (.st 8 (.st 9 (.st 11 (.ph [12] (.st 13 (.fin))))))) 8 (.st 4 (.ph [10] (.st 9 (.st 11 (.ph [12] (.st 13 (.fin)))))))) (.way 8 (.alt 4 (.ph [6,10] (.st 9 (.st 11 (.ph [12] (.st 13 (.fin)))))) 6 (.st 4 (.ph [10] (.st 9 (.st 11 (.ph [12] (.st 13 (.fin)))))))) (.non)))) (.way 6 (.alt 3 (.alt 4 (.ph [10] (.st 8 (.st 9 (.st 11 (.ph [12] (.st 13 (.fin))))))) 8 (.st 4 (.ph [10] (.st 9 (.st 11 (.ph [12] (.st 13 (.fin)))))))) 8 (.st 3 (.st 4 (.ph [10] (.st 9 (.st 11 (.ph [12] (.st 13 (.fin))))))))) (.way 8 (.alt 3 (.alt 4 (.ph [6,10] (.st 9 (.st 11 (.ph [12] (.st 13 (.fin)))))) 6 (.st 4 (.ph [10] (.st 9 (.st 11 (.ph [12] (.st 13 (.fin)))))))) 6 (.st 3 (.st 4 (.ph [10] (.st 9 (.st 11 (.ph [12] (.st 13 (.fin))))))))) (.non)))))]
def ord80:Ords:=[(7,.ph [0,2] (.ph [1] (.ph [3] (.ph [4,6] (.qc 5 (.qc 7 (.ph [8] (.ph [9] (.ph [10,12] (.ph [11] (.qc 13 (.ph [14] (.ph [15] (.fin))))))))))))))]
def ord81:Ords:=[(6,.ph [1,3,2,4,5,6] (.qc 0 (.ph [7] (.st 8 (.ph [9] (.fin))))))]
def ord84:Ords:=[(6,.ph [1,2,4,0] (.ph [3] (.ph [5] (.ph [6] (.qc 7 (.ph [8,9,10] (.ph [11] (.ph [12] (.fin))))))))),(9,.ph [4,0,1] (.ph [2] (.qc 3 (.qc 5 (.ph [6] (.ph [7] (.st 8 (.ph [9] (.fin)))))))))]
def ord91:Ords:=[(4,.ph [0] (.ph [1] (.qc 2 (.ph [3] (.ph [4] (.ph [5] (.ph [6] (.qc 7 (.ph [8] (.ph [9] (.ph [10] (.ph [11] (.ph [12] (.ph [13,14,15,16,17,18,20,19] (.ph [21] (.ph [22] (.ph [23] (.ph [24] (.ph [25,26] (.ph [27] (.ph [28] (.qc 29 (.ph [30] (.ph [31] (.fin)))))))))))))))))))))))))]
def ord95:Ords:=[(39,.ph [0,2] (.ph [1] (.ph [3] (.ph [4] (.qc 5 (.ph [6] (.ph [7] (.ph [8] (.ph [9] (.ph [10,11,13,14,18,20,12,15,16,17] (.ph [19] (.ph [21] (.ph [22] (.ph [23] (.ph [24] (.ph [25] (.ph [26] (.fin))))))))))))))))))]
def ord98:Ords:=[(9,.ph [0,2] (.alt 1 (.st 3 (.st 4 (.st 5 (.ph [6] (.st 7 (.fin)))))) 3 (.ph [1] (.st 4 (.st 5 (.ph [6] (.st 7 (.fin))))))))]
def ord107:Ords:=[(1,.ph [0,2,5,8,12,14,1,3,6,7,9,10,13,15] (.qc 4 (.qc 11 (.qc 16 (.st 17 (.qc 18 (.ph [19] (.fin))))))))]
def ord110:Ords:=[(1,.ph [0,1,5,6,2,3,4] (.ph [7] (.ph [8] (.ph [9] (.qc 10 (.ph [11] (.fin)))))))]
def ord111:Ords:=[(6,.ph [0] (.ph [1] (.ph [2,3,4,5,6,7,9,8] (.ph [10] (.ph [11] (.ph [12] (.fin)))))))]
def ord119:Ords:=[(7,.ph [1,2,3,5,0,4] (.ph [6] (.qc 7 (.ph [8,9,10] (.ph [11] (.ph [12] (.fin)))))))]
def ord127:Ords:=[(4,.ph [0] (.ph [1] (.ph [2,3,4,5,6,7,9,8] (.ph [10] (.ph [11] (.ph [12] (.ph [13] (.ph [14] (.qc 15 (.ph [16] (.ph [17] (.fin))))))))))))]
def ord128:Ords:=[(12,.ph [0] (.ph [1] (.ph [2,3,4,5,6,7,8,10,11,9] (.ph [12] (.ph [13] (.ph [14] (.ph [15] (.fin))))))))]
def ord132:Ords:=[(3,.ph [0,3,1,4] (.qc 2 (.qc 5 (.st 6 (.ph [7] (.fin))))))]
def ord134:Ords:=[(1,.ph [0,1,2,5,6,7,3] (.alt 4 (.ph [8] (.ph [9] (.st 10 (.ph [11] (.fin))))) 8 (.ph [9] (.st 4 (.st 10 (.ph [11] (.fin)))))))]
def ord138:Ords:=[(14,.ph [0,2,3,6,7,8] (.ph [1] (.ph [4] (.ph [5] (.ph [9] (.ph [10] (.st 11 (.fin))))))))]
def ord139:Ords:=[(1,.ph [1,0] (.ph [2] (.qc 3 (.ph [4] (.qc 5 (.st 6 (.fin)))))))]
def ord140:Ords:=[(3,.ph [0,2,3,4] (.way 1 (.alt 5 (.ph [6] (.st 7 (.st 8 (.fin)))) 7 (.st 5 (.ph [6] (.st 8 (.fin))))) (.way 5 (.ph [1,6] (.st 7 (.st 8 (.fin)))) (.way 7 (.alt 1 (.st 5 (.ph [6] (.st 8 (.fin)))) 5 (.ph [1] (.ph [6] (.st 8 (.fin))))) (.non))))),(7,.ph [0,2,3,4,5,7,6,8,9] (.alt 1 (.st 10 (.ph [11] (.st 12 (.fin)))) 10 (.ph [1] (.ph [11] (.st 12 (.fin))))))]
def ord149:Ords:=[(15,.ph [0] (.ph [1] (.ph [2] (.ph [3] (.ph [4] (.ph [5] (.ph [6,7,8,9,10,12,11] (.ph [13] (.ph [14] (.ph [15] (.ph [16] (.ph [17,18,19,20,21,23,25,26,27,28,22,24] (.ph [29] (.ph [30] (.ph [31] (.ph [32] (.qc 33 (.ph [34] (.ph [35] (.ph [36] (.ph [37] (.ph [38] (.ph [39,40,41,42,43,45,46,47,44] (.ph [48] (.qc 49 (.ph [50] (.ph [51] (.ph [52] (.fin)))))))))))))))))))))))))))))]
def ord150:Ords:=[(6,.ph [0,1,2,3,5,6,7,8,9,4] (.ph [10] (.ph [11] (.fin))))]
def ord155:Ords:=[(11,.ph [0] (.ph [1] (.ph [2,3,4,5,6,7,9,8] (.ph [10] (.ph [11] (.ph [12] (.fin)))))))]
def ord156:Ords:=[(9,.ph [1,2,4,0] (.ph [3] (.ph [5] (.ph [6] (.qc 7 (.ph [8] (.fin)))))))]
def ord157:Ords:=[(12,.ph [1,2,3,4,0] (.ph [5] (.qc 6 (.ph [7,8,9] (.ph [10] (.ph [11] (.fin)))))))]
def ord160:Ords:=[(1,.ph [0,4,9,12,1,2,5,6,10,13] (.qc 3 (.qc 7 (.ph [8] (.qc 11 (.qc 14 (.ph [15] (.ph [16] (.ph [17] (.fin))))))))))]
def ord169:Ords:=[(17,.ph [0] (.ph [1] (.ph [2,3,4,5,6,7,9,10,11,8] (.ph [12] (.st 13 (.ph [14] (.ph [15] (.ph [16] (.fin)))))))))]
def ord176:Ords:=[(2,.ph [0,1,2,4,5,6,3] (.ph [7] (.ph [8] (.ph [9] (.ph [10] (.st 11 (.fin))))))),(3,.ph [0,1,2,3,6,7,8,4,9] (.qc 5 (.ph [10] (.ph [11] (.ph [12] (.st 13 (.fin))))))),(5,.ph [0,1,2,4,5,6,3] (.ph [7] (.ph [8] (.ph [9] (.ph [10] (.st 11 (.fin))))))),(6,.ph [0,1,2,3,6,7,8,4,9] (.qc 5 (.ph [10] (.ph [11] (.ph [12] (.st 13 (.fin))))))),(7,.ph [0,1,2,4,5,6,3] (.ph [7] (.ph [8] (.ph [9] (.ph [10] (.st 11 (.fin))))))),(8,.ph [0,1,2,3,6,7,8,4,9] (.qc 5 (.ph [10] (.ph [11] (.ph [12] (.st 13 (.fin))))))),(9,.ph [0,1,2,4,5,6,3] (.ph [7] (.ph [8] (.ph [9] (.ph [10] (.st 11 (.fin))))))),(10,.ph [0,1,2,3,6,7,8,4,9] (.qc 5 (.ph [10] (.ph [11] (.ph [12] (.st 13 (.fin)))))))]
def ord182:Ords:=[(9,.ph [1,5,0] (.qc 2 (.ph [3] (.qc 4 (.qc 6 (.ph [7] (.ph [8] (.fin))))))))]
def ord201:Ords:=[(3,.ph [0,1,2,3] (.ph [4] (.ph [5] (.qc 6 (.ph [7] (.ph [8] (.st 9 (.ph [10] (.fin)))))))))]
def ord210:Ords:=[(4,.ph [0,5,1] (.way 2 (.ph [3] (.ph [4] (.qc 6 (.ph [7] (.ph [8] (.fin)))))) (.way 3 (.alt 2 (.ph [4] (.qc 6 (.ph [7] (.ph [8] (.fin))))) 4 (.way 2 (.qc 6 (.ph [7] (.ph [8] (.fin)))) (.qw 6 (.st 2 (.ph [7] (.ph [8] (.fin)))) (.non)))) (.way 4 (.alt 2 (.ph [3] (.qc 6 (.ph [7] (.ph [8] (.fin))))) 3 (.way 2 (.qc 6 (.ph [7] (.ph [8] (.fin)))) (.qw 6 (.st 2 (.ph [7] (.ph [8] (.fin)))) (.non)))) (.non)))))]
def ord213:Ords:=[(12,.ph [0,2,6,1,3,4,5] (.ph [7] (.ph [8] (.fin))))]
def ord218:Ords:=[(4,.ph [0] (.ph [1] (.ph [2] (.ph [3] (.ph [4] (.ph [5,6] (.ph [7] (.ph [8] (.ph [9] (.ph [10] (.ph [11] (.ph [12] (.ph [13] (.ph [14] (.ph [15,16,17,18,19,21,22,23,20] (.ph [24] (.ph [25] (.ph [26] (.ph [27] (.fin))))))))))))))))))))]
def ord224:Ords:=[(6,.ph [0] (.ph [1] (.ph [2,3,4,5,6,8,7] (.ph [9] (.ph [10] (.ph [11] (.fin))))))),(8,.ph [0,1,2,3,5,4] (.ph [6] (.ph [7] (.fin)))),(9,.ph [0,1,2,3,4] (.ph [5] (.qc 6 (.st 7 (.st 8 (.ph [9] (.fin))))))),(11,.ph [0,1,2,3,5,6,7,4] (.ph [8] (.qc 9 (.st 10 (.st 11 (.ph [12] (.fin)))))))]
def ord231:Ords:=[(4,.ph [0] (.ph [1] (.ph [2] (.ph [3,4,5,6,7,9,10,11,12,8] (.ph [13] (.st 14 (.ph [15] (.ph [16] (.fin))))))))),(6,.ph [0,1,2,3,4,5,6,7,8,10,11,12,9] (.ph [13] (.ph [14] (.st 15 (.ph [16] (.st 17 (.fin)))))))]
def ord248:Ords:=[(6,.ph [0] (.ph [1] (.qc 2 (.ph [3] (.ph [4] (.ph [5] (.ph [6] (.ph [7,8,10,11,9,12,13] (.ph [14] (.qc 15 (.ph [16] (.ph [17] (.ph [18] (.fin))))))))))))))]
def ord264:Ords:=[(3,.ph [0,1,2,3] (.ph [4] (.ph [5] (.qc 6 (.ph [7] (.ph [8] (.st 9 (.ph [10] (.fin))))))))),(5,.ph [0,1,2,3] (.ph [4] (.ph [5] (.qc 6 (.ph [7] (.ph [8] (.st 9 (.ph [10] (.fin))))))))),(7,.ph [0,1,2,3] (.ph [4] (.ph [5] (.qc 6 (.ph [7] (.ph [8] (.st 9 (.ph [10] (.fin)))))))))]
def ord265:Ords:=[(3,.ph [0,3,6,1] (.way 2 (.ph [4] (.alt 5 (.ph [7] (.st 8 (.st 9 (.ph [10] (.ph [11] (.fin)))))) 7 (.st 5 (.st 8 (.st 9 (.ph [10] (.ph [11] (.fin)))))))) (.way 4 (.alt 2 (.alt 5 (.ph [7] (.st 8 (.st 9 (.ph [10] (.ph [11] (.fin)))))) 7 (.st 5 (.st 8 (.st 9 (.ph [10] (.ph [11] (.fin))))))) 7 (.st 2 (.st 5 (.st 8 (.st 9 (.ph [10] (.ph [11] (.fin)))))))) (.way 7 (.alt 2 (.ph [4] (.st 5 (.st 8 (.st 9 (.ph [10] (.ph [11] (.fin))))))) 4 (.st 2 (.st 5 (.st 8 (.st 9 (.ph [10] (.ph [11] (.fin)))))))) (.non)))))]
def ord271:Ords:=[(1,.ph [1,4,0,5,6] (.alt 2 (.qw 3 (.ph [7,8] (.st 9 (.st 10 (.fin)))) (.way 9 (.qc 3 (.ph [7] (.ph [8] (.st 10 (.fin))))) (.non))) 9 (.st 2 (.qc 3 (.ph [7] (.ph [8] (.st 10 (.fin)))))))),(2,.ph [1,4,0,5,6,7] (.alt 2 (.qw 3 (.ph [8,9,10] (.st 11 (.st 12 (.fin)))) (.way 11 (.qc 3 (.ph [8] (.ph [9] (.ph [10] (.st 12 (.fin)))))) (.non))) 11 (.st 2 (.qc 3 (.ph [8] (.ph [9] (.ph [10] (.st 12 (.fin)))))))))]
def ord273:Ords:=[(13,.ph [0,2,4,1] (.ph [3] (.ph [5] (.ph [6] (.ph [7] (.qc 8 (.fin)))))))]
def ord278:Ords:=[(3,.ph [0,1,2,3] (.ph [4] (.ph [5] (.qc 6 (.ph [7] (.ph [8] (.st 9 (.ph [10] (.fin)))))))))]
def ord281:Ords:=[(11,.ph [0,1,2,4,5,6,3] (.ph [7] (.qc 8 (.ph [9] (.st 10 (.fin))))))]
def ord282:Ords:=[(4,.ph [0,1,2,3] (.ph [4] (.ph [5] (.qc 6 (.ph [7] (.ph [8] (.st 9 (.ph [10] (.fin))))))))),(6,.ph [0,1,2,3] (.ph [4] (.ph [5] (.qc 6 (.ph [7] (.ph [8] (.st 9 (.ph [10] (.fin))))))))),(8,.ph [0,1,2,3] (.ph [4] (.ph [5] (.qc 6 (.ph [7] (.ph [8] (.st 9 (.ph [10] (.fin)))))))))]
def ord283:Ords:=[(3,.ph [0,4,9,13,1,2,5,6,10,14] (.qc 3 (.qc 7 (.ph [8] (.qc 11 (.ph [12] (.qc 15 (.ph [16] (.ph [17] (.ph [18] (.fin)))))))))))]
def ord284:Ords:=[(3,.ph [0,2,1,4] (.alt 3 (.st 5 (.ph [6] (.st 7 (.fin)))) 5 (.ph [3] (.ph [6] (.st 7 (.fin)))))),(5,.ph [0,2,4,1,6] (.way 3 (.alt 5 (.st 7 (.ph [8] (.st 9 (.ph [10] (.st 11 (.fin)))))) 7 (.ph [8] (.alt 5 (.st 9 (.ph [10] (.st 11 (.fin)))) 9 (.ph [5] (.ph [10] (.st 11 (.fin))))))) (.way 5 (.alt 3 (.st 7 (.ph [8] (.st 9 (.ph [10] (.st 11 (.fin)))))) 7 (.ph [3] (.ph [8] (.st 9 (.ph [10] (.st 11 (.fin))))))) (.way 7 (.ph [3,8] (.alt 5 (.st 9 (.ph [10] (.st 11 (.fin)))) 9 (.ph [5] (.ph [10] (.st 11 (.fin)))))) (.non)))))]
def ord294:Ords:=[(1,.ph [0] (.ph [1] (.ph [2] (.ph [3,4,6,5] (.ph [7] (.ph [8] (.ph [9] (.ph [10] (.ph [11,12,14,16,13,15] (.ph [17] (.ph [18] (.ph [19] (.ph [20] (.qc 21 (.ph [22] (.ph [23] (.fin)))))))))))))))))]
def ord295:Ords:=[(1,.ph [0,2,5,7,1,3,6,8] (.qc 4 (.qc 9 (.st 10 (.qc 11 (.ph [12] (.fin)))))))]
def ord309:Ords:=[(1,.ph [0] (.ph [1] (.ph [2] (.ph [3] (.ph [4] (.ph [5] (.ph [6] (.ph [7] (.ph [8] (.ph [9] (.ph [10] (.ph [11] (.ph [12] (.ph [13] (.ph [14] (.ph [15] (.ph [16] (.ph [17] (.ph [18] (.ph [19] (.ph [20] (.ph [21] (.ph [22] (.ph [23,24,26,28,25,27] (.ph [29] (.qc 30 (.ph [31] (.ph [32] (.ph [33] (.fin))))))))))))))))))))))))))))))]
def ord313:Ords:=[(1,.ph [4,0] (.way 1 (.way 2 (.ph [3] (.alt 5 (.ph [6] (.st 7 (.st 8 (.fin)))) 7 (.ph [5] (.ph [6] (.st 8 (.fin)))))) (.way 5 (.alt 2 (.ph [3,6] (.st 7 (.st 8 (.fin)))) 7 (.ph [2] (.ph [3] (.ph [6] (.st 8 (.fin)))))) (.way 7 (.ph [2,3] (.ph [5] (.ph [6] (.st 8 (.fin))))) (.non)))) (.way 2 (.way 1 (.ph [3] (.alt 5 (.ph [6] (.st 7 (.st 8 (.fin)))) 7 (.ph [5] (.ph [6] (.st 8 (.fin)))))) (.way 5 (.alt 1 (.ph [3,6] (.st 7 (.st 8 (.fin)))) 7 (.ph [1] (.ph [3] (.ph [6] (.st 8 (.fin)))))) (.way 7 (.ph [1,3] (.ph [5] (.ph [6] (.st 8 (.fin))))) (.non)))) (.way 5 (.way 1 (.alt 2 (.ph [3,6] (.st 7 (.st 8 (.fin)))) 7 (.ph [2] (.ph [3] (.ph [6] (.st 8 (.fin)))))) (.way 2 (.alt 1 (.ph [3,6] (.st 7 (.st 8 (.fin)))) 7 (.ph [1] (.ph [3] (.ph [6] (.st 8 (.fin)))))) (.way 7 (.ph [1] (.ph [2] (.ph [3] (.ph [6] (.st 8 (.fin)))))) (.non)))) (.way 7 (.ph [1,2,3] (.ph [5] (.ph [6] (.st 8 (.fin))))) (.non))))))]
def ord316:Ords:=[(4,.ph [0,1,2,4,5,6,7,3] (.ph [8] (.ph [9] (.fin))))]
def ord329:Ords:=[(1,.ph [0] (.ph [1] (.ph [2] (.ph [3] (.ph [4] (.ph [5] (.ph [6] (.ph [7] (.ph [8] (.ph [9] (.ph [10] (.ph [11] (.ph [12] (.ph [13] (.ph [14] (.ph [15] (.ph [16] (.ph [17] (.ph [18] (.ph [19] (.ph [20] (.ph [21] (.ph [22] (.ph [23,24,26,28,25,27] (.ph [29] (.qc 30 (.ph [31] (.ph [32] (.ph [33] (.fin))))))))))))))))))))))))))))))]
def ord331:Ords:=[(4,.ph [0,1,2,4,5,6,3] (.ph [7] (.ph [8] (.fin)))),(6,.ph [0,1,2,4,5,6,3] (.ph [7] (.ph [8] (.fin))))]
def ord355:Ords:=[(3,.ph [0,1,3,4] (.way 2 (.qc 5 (.ph [6] (.ph [7] (.fin)))) (.qw 5 (.st 2 (.ph [6] (.ph [7] (.fin)))) (.non))))]
theorem bytes_2:(Γ.get 2).bytes=8:=rfl
theorem bytes_3:(Γ.get 3).bytes=8:=rfl
theorem bytes_4:(Γ.get 4).bytes=1:=rfl
theorem bytes_5:(Γ.get 5).bytes=1:=rfl
theorem bytes_9:(Γ.get 9).bytes=16:=rfl
theorem bytes_12:(Γ.get 12).bytes=8:=rfl
theorem bytes_21:(Γ.get 21).bytes=4:=rfl
theorem bytes_22:(Γ.get 22).bytes=24:=rfl
theorem bytes_25:(Γ.get 25).bytes=8:=rfl
theorem bytes_27:(Γ.get 27).bytes=24:=rfl
theorem bytes_28:(Γ.get 28).bytes=24:=rfl
theorem bytes_29:(Γ.get 29).bytes=24:=rfl
theorem bytes_30:(Γ.get 30).bytes=72:=rfl
theorem bytes_31:(Γ.get 31).bytes=72:=rfl
theorem bytes_32:(Γ.get 32).bytes=96:=rfl
theorem bytes_33:(Γ.get 33).bytes=96:=rfl
theorem bytes_34:(Γ.get 34).bytes=24:=rfl
theorem bytes_35:(Γ.get 35).bytes=24:=rfl
theorem bytes_36:(Γ.get 36).bytes=24:=rfl
theorem bytes_37:(Γ.get 37).bytes=24:=rfl
theorem bytes_38:(Γ.get 38).bytes=56:=rfl
theorem bytes_39:(Γ.get 39).bytes=56:=rfl
theorem bytes_40:(Γ.get 40).bytes=16:=rfl
theorem bytes_41:(Γ.get 41).bytes=16:=rfl
theorem bytes_42:(Γ.get 42).bytes=24:=rfl
theorem bytes_43:(Γ.get 43).bytes=8:=rfl
theorem bytes_44:(Γ.get 44).bytes=16:=rfl
theorem bytes_45:(Γ.get 45).bytes=16:=rfl
theorem bytes_46:(Γ.get 46).bytes=328:=rfl
theorem bytes_47:(Γ.get 47).bytes=328:=rfl
theorem bytes_51:(Γ.get 51).bytes=40:=rfl
theorem bytes_52:(Γ.get 52).bytes=40:=rfl
theorem bytes_53:(Γ.get 53).bytes=24:=rfl
theorem bytes_54:(Γ.get 54).bytes=48:=rfl
theorem bytes_55:(Γ.get 55).bytes=48:=rfl
theorem bytes_56:(Γ.get 56).bytes=24:=rfl
theorem bytes_58:(Γ.get 58).bytes=24:=rfl
theorem bytes_59:(Γ.get 59).bytes=8:=rfl
theorem bytes_69:(Γ.get 69).bytes=24:=rfl
theorem bytes_70:(Γ.get 70).bytes=24:=rfl
theorem bytes_71:(Γ.get 71).bytes=24:=rfl
theorem bytes_72:(Γ.get 72).bytes=24:=rfl
theorem bytes_73:(Γ.get 73).bytes=40:=rfl
theorem bytes_74:(Γ.get 74).bytes=40:=rfl
theorem bytes_77:(Γ.get 77).bytes=24:=rfl
theorem bytes_78:(Γ.get 78).bytes=40:=rfl
theorem bytes_79:(Γ.get 79).bytes=40:=rfl
theorem bytes_87:(Γ.get 87).bytes=40:=rfl
theorem bytes_88:(Γ.get 88).bytes=40:=rfl
theorem bytes_93:(Γ.get 93).bytes=16:=rfl
theorem bytes_94:(Γ.get 94).bytes=16:=rfl
theorem bytes_95:(Γ.get 95).bytes=24:=rfl
theorem bytes_96:(Γ.get 96).bytes=24:=rfl
theorem bytes_97:(Γ.get 97).bytes=24:=rfl
theorem bytes_99:(Γ.get 99).bytes=56:=rfl
theorem bytes_100:(Γ.get 100).bytes=56:=rfl
theorem bytes_103:(Γ.get 103).bytes=8:=rfl
theorem bytes_106:(Γ.get 106).bytes=64:=rfl
theorem bytes_107:(Γ.get 107).bytes=64:=rfl
theorem bytes_111:(Γ.get 111).bytes=24:=rfl
theorem bytes_114:(Γ.get 114).bytes=24:=rfl
theorem bytes_115:(Γ.get 115).bytes=24:=rfl
theorem bytes_116:(Γ.get 116).bytes=32:=rfl
theorem bytes_117:(Γ.get 117).bytes=32:=rfl
theorem bytes_122:(Γ.get 122).bytes=24:=rfl
theorem bytes_128:(Γ.get 128).bytes=72:=rfl
theorem bytes_129:(Γ.get 129).bytes=72:=rfl
theorem bytes_131:(Γ.get 131).bytes=32:=rfl
theorem bytes_142:(Γ.get 142).bytes=32:=rfl
theorem bytes_143:(Γ.get 143).bytes=32:=rfl
theorem bytes_147:(Γ.get 147).bytes=64:=rfl
theorem bytes_148:(Γ.get 148).bytes=64:=rfl
theorem bytes_154:(Γ.get 154).bytes=24:=rfl
theorem bytes_156:(Γ.get 156).bytes=24:=rfl
theorem bytes_165:(Γ.get 165).bytes=24:=rfl
theorem bytes_166:(Γ.get 166).bytes=88:=rfl
theorem bytes_167:(Γ.get 167).bytes=88:=rfl
theorem bytes_174:(Γ.get 174).bytes=8:=rfl
theorem bytes_175:(Γ.get 175).bytes=8:=rfl
theorem bytes_176:(Γ.get 176).bytes=8:=rfl
theorem bytes_177:(Γ.get 177).bytes=40:=rfl
theorem bytes_178:(Γ.get 178).bytes=40:=rfl
theorem bytes_188:(Γ.get 188).bytes=48:=rfl
theorem bytes_200:(Γ.get 200).bytes=24:=rfl
theorem bytes_203:(Γ.get 203).bytes=56:=rfl
theorem bytes_204:(Γ.get 204).bytes=56:=rfl
theorem bytes_205:(Γ.get 205).bytes=56:=rfl
theorem bytes_206:(Γ.get 206).bytes=56:=rfl
theorem bytes_213:(Γ.get 213).bytes=24:=rfl
theorem bytes_214:(Γ.get 214).bytes=24:=rfl
theorem bytes_220:(Γ.get 220).bytes=24:=rfl
theorem bytes_221:(Γ.get 221).bytes=24:=rfl
theorem bytes_224:(Γ.get 224).bytes=24:=rfl
theorem bytes_237:(Γ.get 237).bytes=8:=rfl
theorem bytes_238:(Γ.get 238).bytes=32:=rfl
theorem bytes_239:(Γ.get 239).bytes=32:=rfl
theorem bytes_249:(Γ.get 249).bytes=200:=rfl
theorem bytes_251:(Γ.get 251).bytes=32:=rfl
theorem bytes_252:(Γ.get 252).bytes=32:=rfl
theorem bytes_270:(Γ.get 270).bytes=24:=rfl
theorem bytes_271:(Γ.get 271).bytes=24:=rfl
theorem bytes_281:(Γ.get 281).bytes=32:=rfl
theorem bytes_282:(Γ.get 282).bytes=32:=rfl
theorem bytes_286:(Γ.get 286).bytes=24:=rfl
theorem bytes_301:(Γ.get 301).bytes=8:=rfl
theorem bytes_314:(Γ.get 314).bytes=8:=rfl
theorem bytes_321:(Γ.get 321).bytes=4:=rfl
theorem bytes_323:(Γ.get 323).bytes=8:=rfl
theorem bytes_326:(Γ.get 326).bytes=160:=rfl
theorem bytes_327:(Γ.get 327).bytes=65:=rfl
theorem bytes_346:(Γ.get 346).bytes=8:=rfl
theorem bytes_349:(Γ.get 349).bytes=8:=rfl
theorem bytes_359:(Γ.get 359).bytes=1024:=rfl
theorem bytes_367:(Γ.get 367).bytes=8:=rfl
theorem bytes_380:(Γ.get 380).bytes=8:=rfl
theorem bytes_383:(Γ.get 383).bytes=32:=rfl
theorem bytes_384:(Γ.get 384).bytes=64:=rfl
theorem bytes_386:(Γ.get 386).bytes=24:=rfl
theorem bytes_387:(Γ.get 387).bytes=16:=rfl
theorem bytes_388:(Γ.get 388).bytes=16:=rfl
theorem bytes_400:(Γ.get 400).bytes=96:=rfl
theorem bytes_414:(Γ.get 414).bytes=2:=rfl
theorem Cw {x y:Code} {nt:Nt} {st:St} {K:Sx.Ex->St->Prop} (ords:Ords) (cuts:List Nat) {α:Type} (sl:α->List (Nat × D)) (bx:α->List (Nat × Box)) (nxt:Nat) (φ:α->Prop) (hx:Step (WX Tryz.prog Γ nt ords cuts x st (thenW K fun st=>Again φ fun y=>mtS st (sl y) (bx y) nxt))) (hy:∀ z,φ z->Step (WX Tryz.prog Γ nt ords cuts y (mkSt (sl z) (bx z) nxt) K)) (ho:(ordsOK ords x&&ordsOK ords y)=true:=by kernel_rfl):CodeOK Tryz.prog nt (.seq x y) st K:=.cutW hΓ hm ords cuts ho sl bx nxt φ hx hy
abbrev Cr (g:FuncId) (l:List D) (r0:D):Prop:=Ct Tryz.prog g l fun r outs=>r=r0/\outs = []
theorem Lw {b:Code} {nt:Nt} {st:St} {K:Sx.Ex->St->Prop} (ords:Ords) (cuts:List Nat) {α:Type} (sl:α->List (Nat × D)) (bx:α->List (Nat × Box)) (nxt:Nat) (φ:α->Prop) (μ:α->Nat) (h0:Again φ fun x=>mtS st (sl x) (bx x) nxt) (hb:∀ x,φ x->Step (WX Tryz.prog Γ nt ords cuts b (mkSt (sl x) (bx x) nxt) (thenW K fun st=>Again (fun y=>φ y/\μ y<μ x) fun y=>mtS st (sl y) (bx y) nxt))) (ho:ordsOK ords b=true:=by kernel_rfl):CodeOK Tryz.prog nt (.loop b) st K:=.loopW hΓ hm ords cuts ho sl bx nxt φ μ h0 hb
theorem Vb {p k:Prop} (hk:Step k) (h:p:=by simp only [bytes_2,bytes_3,bytes_4,bytes_5,bytes_9,bytes_12,bytes_21,bytes_22,bytes_25,bytes_27,bytes_28,bytes_29,bytes_30,bytes_31,bytes_32,bytes_33,bytes_34,bytes_35,bytes_36,bytes_37,bytes_38,bytes_39,bytes_40,bytes_41,bytes_42,bytes_43,bytes_44,bytes_45,bytes_46,bytes_47,bytes_51,bytes_52,bytes_53,bytes_54,bytes_55,bytes_56,bytes_58,bytes_59,bytes_69,bytes_70,bytes_71,bytes_72,bytes_73,bytes_74,bytes_77,bytes_78,bytes_79,bytes_87,bytes_88,bytes_93,bytes_94,bytes_95,bytes_96,bytes_97,bytes_99,bytes_100,bytes_103,bytes_106,bytes_107,bytes_111,bytes_114,bytes_115,bytes_116,bytes_117,bytes_122,bytes_128,bytes_129,bytes_131,bytes_142,bytes_143,bytes_147,bytes_148,bytes_154,bytes_156,bytes_165,bytes_166,bytes_167,bytes_174,bytes_175,bytes_176,bytes_177,bytes_178,bytes_188,bytes_200,bytes_203,bytes_204,bytes_205,bytes_206,bytes_213,bytes_214,bytes_220,bytes_221,bytes_224,bytes_237,bytes_238,bytes_239,bytes_249,bytes_251,bytes_252,bytes_270,bytes_271,bytes_281,bytes_282,bytes_286,bytes_301,bytes_314,bytes_321,bytes_323,bytes_326,bytes_327,bytes_346,bytes_349,bytes_359,bytes_367,bytes_380,bytes_383,bytes_384,bytes_386,bytes_387,bytes_388,bytes_400,bytes_414,true_and,and_true]<;>omega):Vc p k:=⟨h,hk.out⟩
theorem De {f:FuncId} {fn:Func} {args:List D} {R:D->List D->Prop} (hf:Tryz.prog.funcs[f]? = some fn) (ords:Ords) (cuts:List Nat) (h:Step (fnW Tryz.prog Γ fn ords cuts args R)) (ho:fnOrd fn ords=true:=by kernel_rfl):Ct Tryz.prog f args R:=.of_W hΓ hm hf ords cuts ho h.out
end Kx
open Go Sx Go.Proofs
namespace Kx
structure Dk where
 l:List Int
 at_:Int
 st:Int
 h0:0<=at_
 hl:l.length<=400
def Dk.ls (d:Dk):List D:=[ints d.l,i64 d.at_,u64 d.st]
def Dk.b (d:Dk):D:=.fbox d.ls
theorem few_ct (l:List Int):Cr 5 [ints l] (.bool (decide (l.length<=400))):=by
 refine .det (De Tryz.func5 [] [] ?_)
 repeat' first|refine S0 ?_;conv=>whnf|exact T0|refine T2 ?_ ?_
 all_goals first
  | trivial
  | exact hb h
  | with_reducible rfl
  | with_reducible exact same_rfl
  | omega
  | ((simp only [decide_eq_decide];omega))
theorem new_ct (l:List Int) (hl:l.length<=400):Ct Tryz.prog 6 [ints l] fun r outs=>∃ d:Dk,d.l=l/\r=d.b/\outs = []:=by
 refine .some (De Tryz.func6 [] [] ?_)
 repeat' first|refine S0 ?_;conv=>whnf
 refine Lf.by ⟨l,0,11400714819323198485,by omega,hl⟩ rfl ?_
 repeat' first|refine S0 ?_;conv=>whnf|exact T0|exact T1|refine T2 ?_ ?_
 all_goals first
  | trivial
  | exact hb h
  | with_reducible rfl
  | with_reducible exact same_rfl
  | omega
theorem word_end (d:Dk) (x a s:Int) (hx:0<=x/\x<=18446744073709551615) (ha:0<=a) :
 Lf2 (fun y (_:Dk)=>0<=y/\y<=18446744073709551615) fun y z=>Two (wkD (u64 y) (u64 x) false) (wkL [z.b] [.fbox [ints d.l,i64 a,u64 s]] false):=by
 refine Lf2.by x ⟨d.l,a,s,ha,d.hl⟩ hx ?_
 repeat' first|refine S0 ?_;conv=>whnf|exact T0|exact T1|refine T2 ?_ ?_
theorem word_ct (d:Dk):Ct Tryz.prog 28 [d.b] fun r outs=>∃ x d',(0<=x/\x<=18446744073709551615)/\r=u64 x/\outs = [Dk.b d']:=by
 have h0:=d.h0;have hl:=d.hl;refine .some2 (De Tryz.func28 ord28 [] ?_)
 repeat' first|refine S0 ?_;conv=>whnf|refine Vo ?_|refine W6 ?_|refine Wr.raw ?_|(refine Br.d (fun h=>?_) fun h=>?_)
 ·refine word_end d _ _ _ ?_ ?_
  ·exact wu_in _
  ·omega
 ·refine word_end d _ _ _ ?_ ?_
  ·exact wu_in _
  ·omega
theorem half (x:Int):x.fdiv (2 ^ min (Int.toNat 1) IntKind.u64.bits)=x / 2:=by
 rw [Int.fdiv_eq_ediv_of_nonneg _ (by decide)];rfl
theorem tmod_bd (x n:Int) (h0:0<=x) (h1:¬n<1):0<=x.tmod n/\(n<1->x.tmod n=0)/\(1<=n->x.tmod n<n):=by
 rw [Int.tmod_eq_emod_of_nonneg h0];exact ⟨Int.emod_nonneg _ (by omega),fun h=>absurd h h1,fun h=>Int.emod_lt_of_pos _ (by omega)⟩
theorem next_ct (d:Dk) (n:Int):Ct Tryz.prog 9 [d.b,i64 n] fun r outs=>∃ x d',(0<=x/\(n<1->x=0)/\(1<=n->x<n))/\r=i64 x/\outs = [Dk.b d']:=by
 refine .some2 (De Tryz.func9 [] [] ?_)
 repeat' first|refine S0 ?_;conv=>whnf|refine Vo ?_|refine W6 ?_|(rw [half])|(refine Br.d (fun h=>?_) fun h=>?_)|(refine CallOK.io1 (g:=28) (Step.out ?_))|(refine Met.by (g:=28) (word_ct _) ?_;rintro q outs ⟨x,d,hx,rfl,rfl⟩)
 ·refine Lf2.by 0 d ⟨Int.le_refl 0,fun _=>rfl,fun _=>by omega⟩ ?_
  repeat' first|refine S0 ?_;conv=>whnf|exact T0|exact T1|refine T2 ?_ ?_
 ·refine Lf2.by _ d (tmod_bd (x / 2) n (by omega) h) ?_
  repeat' first|refine S0 ?_;conv=>whnf|exact T0|exact T1|refine T2 ?_ ?_
end Kx
