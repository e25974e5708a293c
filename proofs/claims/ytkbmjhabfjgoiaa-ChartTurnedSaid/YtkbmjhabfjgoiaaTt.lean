/- The types of this translation, as the evaluator wants them. -/
import Derived.Test.YtkbmjhabfjgoiaaEvR
import Derived.Test.YtkbmjhabfjgoiaaChecked
noncomputable section
set_option linter.unusedSectionVars false
set_option linter.unusedVariables false
set_option linter.unusedSimpArgs false
namespace Go.Proofs.Ytkbmjhabfjgoiaa
open Go Go.Ev Go.Proofs
abbrev z0 : Int := 0
abbrev z1 : Int := 1
abbrev tN (i:Int) : Nat := Int.toNat i
abbrev gI (l : List Int) (i:Int) : Int := List.getD l (Int.toNat i) (0:Int)
abbrev gT {α : Type} (l : List α) (i:Int) (d : α) : α := List.getD l (Int.toNat i) d
abbrev nL {α : Type} (l : List α) : Int := ((List.length l:Nat):Int)
abbrev _root_.Go.Ev.Tr.oI1 {τ α : Type} {i : Bool} (j:Int) (l : List α) (t : Tr τ i) : Tr τ true := .oR j ((List.length l:Nat):Int) (.od (Int.toNat j < List.length l) t)
abbrev _root_.Go.Ev.Tr.oI2 {τ α : Type} {i : Bool} (j:Int) (l : List α) (t : Tr τ i) : Tr τ true := .oR j ((List.length l:Nat):Int) (.od (Int.toNat j < List.length l) (.od (Int.toNat j < List.length l) t))
abbrev _root_.Go.Ev.Tr.oI3 {τ α : Type} {i : Bool} (j:Int) (l : List α) (t : Tr τ i) : Tr τ true := .oR j ((List.length l:Nat):Int) (.od (Int.toNat j < List.length l) (.od (Int.toNat j < List.length l) (.od (Int.toNat j < List.length l) t)))
abbrev w1 (i:Int) : Int := w64 (i + (1:Int))
abbrev wm (i:Int) : Int := w64 (i - (1:Int))
abbrev zI : Value := Value.int IntKind.i64 0
def tt : List (Nat × TI) :=
 [(1,⟨(TypeDesc.func #[] #[] Bool.false),1,8,Value.nilFunc,none⟩),
 (2,⟨(TypeDesc.int IntKind.i64),1,8,zI,some yi⟩),
 (3,⟨(TypeDesc.int IntKind.i64),1,8,zI,some yi⟩),
 (4,⟨TypeDesc.bool,1,1,(Value.bool Bool.false),some .bool⟩),
 (5,⟨(TypeDesc.int IntKind.u8),1,1,(Value.int IntKind.u8 (0:Int)),some (.int .u8)⟩),
 (6,⟨(TypeDesc.int IntKind.u8),1,1,(Value.int IntKind.u8 (0:Int)),some (.int .u8)⟩),
 (7, ⟨(TypeDesc.struct #[(Field.mk "x" 2 0 Bool.false "" "runtime" 0), (Field.mk "y" 3 1 Bool.false "" "runtime" 8), (Field.mk "signed" 4 2 Bool.false "" "runtime" 16), (Field.mk "code" 6 3 Bool.false "" "runtime" 17)]), 4, 24, (Value.agg #[zI, zI, (Value.bool Bool.false), (Value.int IntKind.u8 (0 : Int))]), some (.prod yi (.prod yi (.prod .bool (.int .u8))))⟩),
 (8, ⟨(TypeDesc.struct #[(Field.mk "x" 2 0 Bool.false "" "runtime" 0), (Field.mk "y" 3 1 Bool.false "" "runtime" 8), (Field.mk "signed" 4 2 Bool.false "" "runtime" 16), (Field.mk "code" 6 3 Bool.false "" "runtime" 17)]), 4, 24, (Value.agg #[zI, zI, (Value.bool Bool.false), (Value.int IntKind.u8 (0 : Int))]), some (.prod yi (.prod yi (.prod .bool (.int .u8))))⟩),
 (9,⟨TypeDesc.string,1,16,(Value.string (ByteArray.mk #[])),some .str⟩),
 (10,⟨TypeDesc.string,1,16,(Value.string (ByteArray.mk #[])),some .str⟩),
 (11,⟨TypeDesc.string,1,16,(Value.string (ByteArray.mk #[])),some .str⟩),
 (12,⟨(TypeDesc.int IntKind.u64),1,8,(Value.int IntKind.u64 (0:Int)),some (.int .u64)⟩),
 (15,⟨(TypeDesc.pointer 153),1,8,(Value.pointer Option.none),none⟩),
 (16,⟨(TypeDesc.pointer 156),1,8,(Value.pointer Option.none),none⟩),
 (17,⟨(TypeDesc.pointer 165),1,8,(Value.pointer Option.none),none⟩),
 (21,⟨(TypeDesc.int IntKind.i32),1,4,(Value.int IntKind.i32 (0:Int)),some (.int .i32)⟩),
 (22,⟨(TypeDesc.slice 67),1,24,(Value.slice Option.none 0 0),some (.sl yy3)⟩),
 (23,⟨(TypeDesc.slice 40),1,24,(Value.slice Option.none 0 0),some (.sl yy2)⟩),
 (24,⟨(TypeDesc.slice 50),1,24,(Value.slice Option.none 0 0),some (.sl yy9)⟩),
 (25, ⟨(TypeDesc.struct #[(Field.mk "V" 22 0 false "" "" 0), (Field.mk "T" 23 1 false "" "" 24), (Field.mk "N" 22 2 false "" "" 48), (Field.mk "Tris" 24 3 false "" "" 72)]), 4, 96, (Value.agg #[(Value.slice Option.none 0 0), (Value.slice Option.none 0 0), (Value.slice Option.none 0 0), (Value.slice Option.none 0 0)]), some (.prod (.sl yy3) (.prod (.sl yy2) (.prod (.sl yy3) (.sl yy9))))⟩),
 (26, ⟨(TypeDesc.struct #[(Field.mk "V" 22 0 false "" "" 0), (Field.mk "T" 23 1 false "" "" 24), (Field.mk "N" 22 2 false "" "" 48), (Field.mk "Tris" 24 3 false "" "" 72)]), 4, 96, (Value.agg #[(Value.slice Option.none 0 0), (Value.slice Option.none 0 0), (Value.slice Option.none 0 0), (Value.slice Option.none 0 0)]), some (.prod (.sl yy3) (.prod (.sl yy2) (.prod (.sl yy3) (.sl yy9))))⟩),
 (27,⟨(TypeDesc.func #[26,28] #[4] Bool.false),1,8,Value.nilFunc,none⟩),
 (28,⟨(TypeDesc.slice 36),1,24,(Value.slice Option.none 0 0),some (.sl (.prod yi (.prod yi (.sl yi))))⟩),
 (29,⟨(TypeDesc.int IntKind.i64),1,8,zI,some yi⟩),
 (31,⟨(TypeDesc.func #[26] #[28,29] Bool.false),1,8,Value.nilFunc,none⟩),
 (32,⟨(TypeDesc.func #[] #[4] Bool.false),1,8,Value.nilFunc,none⟩),
 (33,⟨(TypeDesc.func #[26] #[4] Bool.false),1,8,Value.nilFunc,none⟩),
 (34,⟨(TypeDesc.slice 3),1,24,(Value.slice Option.none 0 0),some (.sl yi)⟩),
 (35, ⟨(TypeDesc.struct #[(Field.mk "Axis" 3 0 false "" "" 0), (Field.mk "Side" 3 1 false "" "" 8), (Field.mk "Tris" 34 2 false "" "" 16)]), 3, 40, (Value.agg #[zI, zI, (Value.slice Option.none 0 0)]), some (.prod yi (.prod yi (.sl yi)))⟩),
 (36, ⟨(TypeDesc.struct #[(Field.mk "Axis" 3 0 false "" "" 0), (Field.mk "Side" 3 1 false "" "" 8), (Field.mk "Tris" 34 2 false "" "" 16)]), 3, 40, (Value.agg #[zI, zI, (Value.slice Option.none 0 0)]), some (.prod yi (.prod yi (.sl yi)))⟩),
 (38,⟨(TypeDesc.func #[26,3] #[3,3,4] Bool.false),1,8,Value.nilFunc,none⟩),
 (39, ⟨(TypeDesc.struct #[(Field.mk "X" 3 0 false "" "" 0), (Field.mk "Y" 3 1 false "" "" 8)]), 2, 16, (Value.agg #[zI, zI]), some yy2⟩),
 (40, ⟨(TypeDesc.struct #[(Field.mk "X" 3 0 false "" "" 0), (Field.mk "Y" 3 1 false "" "" 8)]), 2, 16, (Value.agg #[zI, zI]), some yy2⟩),
 (41,⟨(TypeDesc.array 3 40),6,48,(Value.agg #[zI,zI,zI,zI,zI,zI]),some (.prod yy2 (.prod yy2 yy2))⟩),
 (43,⟨(TypeDesc.func #[26,3,3] #[41,29] Bool.false),1,8,Value.nilFunc,none⟩),
 (44,⟨(TypeDesc.func #[41] #[4] Bool.false),1,8,Value.nilFunc,none⟩),
 (46,⟨(TypeDesc.func #[41,41] #[4,29] Bool.false),1,8,Value.nilFunc,none⟩),
 (47,⟨(TypeDesc.func #[26] #[26] Bool.false),1,8,Value.nilFunc,none⟩),
 (48, ⟨(TypeDesc.struct #[(Field.mk "V" 3 0 false "" "" 0), (Field.mk "T" 3 1 false "" "" 8), (Field.mk "N" 3 2 false "" "" 16)]), 3, 24, (Value.agg #[zI, zI, zI]), some yy3⟩),
 (49, ⟨(TypeDesc.struct #[(Field.mk "V" 3 0 false "" "" 0), (Field.mk "T" 3 1 false "" "" 8), (Field.mk "N" 3 2 false "" "" 16)]), 3, 24, (Value.agg #[zI, zI, zI]), some yy3⟩),
 (50,⟨(TypeDesc.array 3 49),9,72,(Value.agg #[zI,zI,zI,zI,zI,zI,zI,zI,zI]),some yy9⟩),
 (51,⟨(TypeDesc.func #[28,28] #[4] Bool.false),1,8,Value.nilFunc,none⟩),
 (52,⟨(TypeDesc.func #[26,36,3] #[4] Bool.false),1,8,Value.nilFunc,none⟩),
 (53,⟨(TypeDesc.pointer 78),1,8,(Value.pointer Option.none),none⟩),
 (55,⟨(TypeDesc.func #[26] #[53,4] Bool.false),1,8,Value.nilFunc,none⟩),
 (56, ⟨(TypeDesc.struct #[(Field.mk "axis" 3 0 Bool.false "" "limewash/chart" 0), (Field.mk "side" 3 1 Bool.false "" "limewash/chart" 8)]), 2, 16, (Value.agg #[zI, zI]), some yy2⟩),
 (57, ⟨(TypeDesc.struct #[(Field.mk "axis" 3 0 Bool.false "" "limewash/chart" 0), (Field.mk "side" 3 1 Bool.false "" "limewash/chart" 8)]), 2, 16, (Value.agg #[zI, zI]), some yy2⟩),
 (59,⟨(TypeDesc.func #[3] #[57,4] Bool.false),1,8,Value.nilFunc,none⟩),
 (60,⟨(TypeDesc.pointer 62),1,8,(Value.pointer Option.none),none⟩),
 (61, ⟨(TypeDesc.struct #[(Field.mk "body" 53 0 Bool.true "" "limewash/chart" 0), (Field.mk "way" 57 1 Bool.true "" "limewash/chart" 8), (Field.mk "tris" 34 3 Bool.false "" "limewash/chart" 24)]), 4, 48, (Value.agg #[(Value.pointer Option.none), zI, zI, (Value.slice Option.none 0 0)]), none⟩),
 (62, ⟨(TypeDesc.struct #[(Field.mk "body" 53 0 Bool.true "" "limewash/chart" 0), (Field.mk "way" 57 1 Bool.true "" "limewash/chart" 8), (Field.mk "tris" 34 3 Bool.false "" "limewash/chart" 24)]), 4, 48, (Value.agg #[(Value.pointer Option.none), zI, zI, (Value.slice Option.none 0 0)]), none⟩),
 (63,⟨(TypeDesc.func #[34,64] #[3] Bool.false),1,8,Value.nilFunc,none⟩),
 (64,⟨(TypeDesc.func #[3] #[4] Bool.false),1,8,Value.nilFunc,none⟩),
 (65,⟨(TypeDesc.func #[34,3,3] #[34] Bool.false),1,8,Value.nilFunc,none⟩),
 (66, ⟨(TypeDesc.struct #[(Field.mk "X" 3 0 false "" "" 0), (Field.mk "Y" 3 1 false "" "" 8), (Field.mk "Z" 3 2 false "" "" 16)]), 3, 24, (Value.agg #[zI, zI, zI]), some yy3⟩),
 (67, ⟨(TypeDesc.struct #[(Field.mk "X" 3 0 false "" "" 0), (Field.mk "Y" 3 1 false "" "" 8), (Field.mk "Z" 3 2 false "" "" 16)]), 3, 24, (Value.agg #[zI, zI, zI]), some yy3⟩),
 (68,⟨(TypeDesc.func #[3,3,3] #[50] Bool.false),1,8,Value.nilFunc,none⟩),
 (69,⟨(TypeDesc.func #[22,70] #[4] Bool.false),1,8,Value.nilFunc,none⟩),
 (70,⟨(TypeDesc.func #[67] #[4] Bool.false),1,8,Value.nilFunc,none⟩),
 (71,⟨(TypeDesc.func #[3,3] #[41] Bool.false),1,8,Value.nilFunc,none⟩),
 (73,⟨(TypeDesc.func #[40,40,40] #[3,29] Bool.false),1,8,Value.nilFunc,none⟩),
 (74,⟨(TypeDesc.func #[41,41,3] #[4,29] Bool.false),1,8,Value.nilFunc,none⟩),
 (75,⟨(TypeDesc.func #[34,34] #[4] Bool.false),1,8,Value.nilFunc,none⟩),
 (76,⟨(TypeDesc.func #[34,64] #[4] Bool.false),1,8,Value.nilFunc,none⟩),
 (77, ⟨(TypeDesc.struct #[(Field.mk "Mesh" 26 0 Bool.true "" "" 0)]), 4, 96, (Value.agg #[(Value.slice Option.none 0 0), (Value.slice Option.none 0 0), (Value.slice Option.none 0 0), (Value.slice Option.none 0 0)]), some (.prod (.sl yy3) (.prod (.sl yy2) (.prod (.sl yy3) (.sl yy9))))⟩),
 (78, ⟨(TypeDesc.struct #[(Field.mk "Mesh" 26 0 Bool.true "" "" 0)]), 4, 96, (Value.agg #[(Value.slice Option.none 0 0), (Value.slice Option.none 0 0), (Value.slice Option.none 0 0), (Value.slice Option.none 0 0)]), some (.prod (.sl yy3) (.prod (.sl yy2) (.prod (.sl yy3) (.sl yy9))))⟩),
 (79,⟨(TypeDesc.array 3 67),9,72,(Value.agg #[zI,zI,zI,zI,zI,zI,zI,zI,zI]),some yy9⟩),
 (80,⟨(TypeDesc.func #[3] #[79] Bool.false),1,8,Value.nilFunc,none⟩),
 (82,⟨(TypeDesc.func #[67,67,67] #[3,3,29] Bool.false),1,8,Value.nilFunc,none⟩),
 (83,⟨(TypeDesc.func #[34,3] #[4] Bool.false),1,8,Value.nilFunc,none⟩),
 (85,⟨(TypeDesc.func #[26,3] #[34,29] Bool.false),1,8,Value.nilFunc,none⟩),
 (86,⟨(TypeDesc.func #[22] #[4] Bool.true),1,8,Value.nilFunc,none⟩),
 (87,⟨(TypeDesc.func #[23] #[4] Bool.true),1,8,Value.nilFunc,none⟩),
 (88,⟨(TypeDesc.func #[3,3,4] #[4] Bool.false),1,8,Value.nilFunc,none⟩),
 (89,⟨(TypeDesc.func #[22,70] #[3] Bool.false),1,8,Value.nilFunc,none⟩),
 (91,⟨(TypeDesc.func #[67,3] #[40,29] Bool.false),1,8,Value.nilFunc,none⟩),
 (92,⟨(TypeDesc.array 3 40),6,48,(Value.agg #[zI,zI,zI,zI,zI,zI]),some (.prod yy2 (.prod yy2 yy2))⟩),
 (93,⟨(TypeDesc.func #[] #[3,29] Bool.false),1,8,Value.nilFunc,none⟩),
 (94,⟨(TypeDesc.func #[41,3,23] #[4] Bool.true),1,8,Value.nilFunc,none⟩),
 (96,⟨(TypeDesc.func #[67,67,67] #[67,29] Bool.false),1,8,Value.nilFunc,none⟩),
 (97,⟨(TypeDesc.func #[67] #[3] Bool.false),1,8,Value.nilFunc,none⟩),
 (98,⟨(TypeDesc.func #[3,3] #[3] Bool.false),1,8,Value.nilFunc,none⟩),
 (99,⟨(TypeDesc.array 3 3),3,24,(Value.agg #[zI,zI,zI]),some yy3⟩),
 (100,⟨(TypeDesc.func #[34,3] #[3] Bool.false),1,8,Value.nilFunc,none⟩),
 (101,⟨(TypeDesc.func #[102,26,3] #[34] Bool.false),1,8,Value.nilFunc,none⟩),
 (102,⟨(TypeDesc.map 118 34),1,8,(Value.map Option.none),none⟩),
 (103,⟨(TypeDesc.func #[26] #[102] Bool.false),1,8,Value.nilFunc,none⟩),
 (104,⟨(TypeDesc.func #[34] #[4] Bool.true),1,8,Value.nilFunc,none⟩),
 (105,⟨(TypeDesc.func #[67] #[99] Bool.false),1,8,Value.nilFunc,none⟩),
 (106,⟨(TypeDesc.func #[40,40] #[3,29] Bool.false),1,8,Value.nilFunc,none⟩),
 (107,⟨(TypeDesc.func #[40,40] #[40] Bool.false),1,8,Value.nilFunc,none⟩),
 (108,⟨(TypeDesc.func #[122] #[] Bool.false),1,8,Value.nilFunc,none⟩),
 (109,⟨(TypeDesc.func #[122] #[] Bool.false),1,8,Value.nilFunc,none⟩),
 (110,⟨(TypeDesc.func #[41] #[109] Bool.false),1,8,Value.nilFunc,none⟩),
 (111,⟨(TypeDesc.func #[40] #[3] Bool.false),1,8,Value.nilFunc,none⟩),
 (112,⟨(TypeDesc.array 3 67),9,72,(Value.agg #[zI,zI,zI,zI,zI,zI,zI,zI,zI]),some yy9⟩),
 (113,⟨(TypeDesc.func #[] #[67,29] Bool.false),1,8,Value.nilFunc,none⟩),
 (114,⟨(TypeDesc.func #[3] #[3] Bool.false),1,8,Value.nilFunc,none⟩),
 (115,⟨(TypeDesc.slice 118),1,24,(Value.slice Option.none 0 0),some (.sl yy2)⟩),
 (116,⟨(TypeDesc.func #[50] #[115] Bool.false),1,8,Value.nilFunc,none⟩),
 (117,⟨(TypeDesc.array 2 3),2,16,(Value.agg #[zI,zI]),some yy2⟩),
 (118,⟨(TypeDesc.array 2 3),2,16,(Value.agg #[zI,zI]),some yy2⟩),
 (119,⟨(TypeDesc.func #[34] #[] Bool.false),1,8,Value.nilFunc,none⟩),
 (120,⟨(TypeDesc.func #[34] #[34] Bool.false),1,8,Value.nilFunc,none⟩),
 (121,⟨(TypeDesc.func #[3,34] #[4] Bool.true),1,8,Value.nilFunc,none⟩),
 (122,⟨(TypeDesc.func #[111] #[4] Bool.false),1,8,Value.nilFunc,none⟩),
 (123,⟨(TypeDesc.func #[67,67] #[67,29] Bool.false),1,8,Value.nilFunc,none⟩),
 (124,⟨(TypeDesc.func #[67,67] #[67] Bool.false),1,8,Value.nilFunc,none⟩),
 (125,⟨(TypeDesc.func #[34,3,3,3] #[] Bool.false),1,8,Value.nilFunc,none⟩),
 (126,⟨(TypeDesc.func #[127] #[3] Bool.false),1,8,Value.nilFunc,none⟩),
 (127,⟨(TypeDesc.int IntKind.u64),1,8,(Value.int IntKind.u64 (0:Int)),some (.int .u64)⟩),
 (128,⟨(TypeDesc.func #[99] #[67] Bool.false),1,8,Value.nilFunc,none⟩),
 (129,⟨(TypeDesc.func #[34,3,3] #[] Bool.false),1,8,Value.nilFunc,none⟩),
 (130,⟨(TypeDesc.int IntKind.i64),1,8,zI,some yi⟩),
 (132,⟨(TypeDesc.func #[34,3,3] #[3,130] Bool.false),1,8,Value.nilFunc,none⟩),
 (133,⟨(TypeDesc.func #[34,3,3] #[4] Bool.false),1,8,Value.nilFunc,none⟩),
 (134,⟨(TypeDesc.func #[3,3] #[4] Bool.false),1,8,Value.nilFunc,none⟩),
 (135,⟨(TypeDesc.func #[34,3,3,3] #[3] Bool.false),1,8,Value.nilFunc,none⟩),
 (137,⟨(TypeDesc.func #[34,3,3,3] #[3,4] Bool.false),1,8,Value.nilFunc,none⟩),
 (138,⟨(TypeDesc.func #[139] #[3] Bool.false),1,8,Value.nilFunc,none⟩),
 (139,⟨(TypeDesc.int IntKind.u32),1,4,(Value.int IntKind.u32 (0:Int)),some (.int .u32)⟩),
 (140,⟨(TypeDesc.func #[141] #[3] Bool.false),1,8,Value.nilFunc,none⟩),
 (141,⟨(TypeDesc.int IntKind.u64),1,8,(Value.int IntKind.u64 (0:Int)),some (.int .u64)⟩),
 (142,⟨(TypeDesc.int IntKind.u64),1,8,(Value.int IntKind.u64 (0:Int)),some (.int .u64)⟩),
 (143,⟨(TypeDesc.func #[3] #[127] Bool.false),1,8,Value.nilFunc,none⟩),
 (144,⟨(TypeDesc.func #[] #[141] Bool.false),1,8,Value.nilFunc,none⟩),
 (145,⟨(TypeDesc.func #[34,3,146] #[3] Bool.false),1,8,Value.nilFunc,none⟩),
 (146,⟨(TypeDesc.pointer 3),1,8,(Value.pointer Option.none),none⟩),
 (147,⟨(TypeDesc.func #[34,3,3,3,146] #[3] Bool.false),1,8,Value.nilFunc,none⟩),
 (148,⟨(TypeDesc.pointer 142),1,8,(Value.pointer Option.none),none⟩),
 (150,⟨(TypeDesc.func #[34,3,3,146] #[3,3] Bool.false),1,8,Value.nilFunc,none⟩),
 (151,⟨(TypeDesc.func #[] #[9] Bool.false),1,8,Value.nilFunc,none⟩),
 (157,⟨(TypeDesc.func #[] #[3] Bool.false),1,8,Value.nilFunc,none⟩),
 (158,⟨(TypeDesc.int IntKind.u8),1,1,(Value.int IntKind.u8 (0:Int)),some (.int .u8)⟩),
 (159,⟨(TypeDesc.int IntKind.u8),1,1,(Value.int IntKind.u8 (0:Int)),some (.int .u8)⟩),
 (160,⟨(TypeDesc.func #[166,166] #[4] Bool.false),1,8,Value.nilFunc,none⟩),
 (161,⟨(TypeDesc.pointer 5),1,8,(Value.pointer Option.none),none⟩),
 (162,⟨(TypeDesc.int IntKind.i32),1,4,(Value.int IntKind.i32 (0:Int)),some (.int .i32)⟩),
 (163,⟨(TypeDesc.int IntKind.i32),1,4,(Value.int IntKind.i32 (0:Int)),some (.int .i32)⟩),
 (166,⟨TypeDesc.unsafePointer,1,8,(Value.pointer Option.none),none⟩)]
set_option maxRecDepth 100000 in
theorem tt_ok : TOk Try.prog tt :=
 TOk.cons (by kernel_rfl) (by decide) (by kernel_rfl) (by kernel_rfl) (
 TOk.cons (by kernel_rfl) (by decide) (by kernel_rfl) (by kernel_rfl) (
 TOk.cons (by kernel_rfl) (by decide) (by kernel_rfl) (by kernel_rfl) (
 TOk.cons (by kernel_rfl) (by decide) (by kernel_rfl) (by kernel_rfl) (
 TOk.cons (by kernel_rfl) (by decide) (by kernel_rfl) (by kernel_rfl) (
 TOk.cons (by kernel_rfl) (by decide) (by kernel_rfl) (by kernel_rfl) (
 TOk.cons (by kernel_rfl) (by decide) (by kernel_rfl) (by kernel_rfl) (
 TOk.cons (by kernel_rfl) (by decide) (by kernel_rfl) (by kernel_rfl) (
 TOk.cons (by kernel_rfl) (by decide) (by kernel_rfl) (by kernel_rfl) (
 TOk.cons (by kernel_rfl) (by decide) (by kernel_rfl) (by kernel_rfl) (
 TOk.cons (by kernel_rfl) (by decide) (by kernel_rfl) (by kernel_rfl) (
 TOk.cons (by kernel_rfl) (by decide) (by kernel_rfl) (by kernel_rfl) (
 TOk.cons (by kernel_rfl) (by decide) (by kernel_rfl) (by kernel_rfl) (
 TOk.cons (by kernel_rfl) (by decide) (by kernel_rfl) (by kernel_rfl) (
 TOk.cons (by kernel_rfl) (by decide) (by kernel_rfl) (by kernel_rfl) (
 TOk.cons (by kernel_rfl) (by decide) (by kernel_rfl) (by kernel_rfl) (
 TOk.cons (by kernel_rfl) (by decide) (by kernel_rfl) (by kernel_rfl) (
 TOk.cons (by kernel_rfl) (by decide) (by kernel_rfl) (by kernel_rfl) (
 TOk.cons (by kernel_rfl) (by decide) (by kernel_rfl) (by kernel_rfl) (
 TOk.cons (by kernel_rfl) (by decide) (by kernel_rfl) (by kernel_rfl) (
 TOk.cons (by kernel_rfl) (by decide) (by kernel_rfl) (by kernel_rfl) (
 TOk.cons (by kernel_rfl) (by decide) (by kernel_rfl) (by kernel_rfl) (
 TOk.cons (by kernel_rfl) (by decide) (by kernel_rfl) (by kernel_rfl) (
 TOk.cons (by kernel_rfl) (by decide) (by kernel_rfl) (by kernel_rfl) (
 TOk.cons (by kernel_rfl) (by decide) (by kernel_rfl) (by kernel_rfl) (
 TOk.cons (by kernel_rfl) (by decide) (by kernel_rfl) (by kernel_rfl) (
 TOk.cons (by kernel_rfl) (by decide) (by kernel_rfl) (by kernel_rfl) (
 TOk.cons (by kernel_rfl) (by decide) (by kernel_rfl) (by kernel_rfl) (
 TOk.cons (by kernel_rfl) (by decide) (by kernel_rfl) (by kernel_rfl) (
 TOk.cons (by kernel_rfl) (by decide) (by kernel_rfl) (by kernel_rfl) (
 TOk.cons (by kernel_rfl) (by decide) (by kernel_rfl) (by kernel_rfl) (
 TOk.cons (by kernel_rfl) (by decide) (by kernel_rfl) (by kernel_rfl) (
 TOk.cons (by kernel_rfl) (by decide) (by kernel_rfl) (by kernel_rfl) (
 TOk.cons (by kernel_rfl) (by decide) (by kernel_rfl) (by kernel_rfl) (
 TOk.cons (by kernel_rfl) (by decide) (by kernel_rfl) (by kernel_rfl) (
 TOk.cons (by kernel_rfl) (by decide) (by kernel_rfl) (by kernel_rfl) (
 TOk.cons (by kernel_rfl) (by decide) (by kernel_rfl) (by kernel_rfl) (
 TOk.cons (by kernel_rfl) (by decide) (by kernel_rfl) (by kernel_rfl) (
 TOk.cons (by kernel_rfl) (by decide) (by kernel_rfl) (by kernel_rfl) (
 TOk.cons (by kernel_rfl) (by decide) (by kernel_rfl) (by kernel_rfl) (
 TOk.cons (by kernel_rfl) (by decide) (by kernel_rfl) (by kernel_rfl) (
 TOk.cons (by kernel_rfl) (by decide) (by kernel_rfl) (by kernel_rfl) (
 TOk.cons (by kernel_rfl) (by decide) (by kernel_rfl) (by kernel_rfl) (
 TOk.cons (by kernel_rfl) (by decide) (by kernel_rfl) (by kernel_rfl) (
 TOk.cons (by kernel_rfl) (by decide) (by kernel_rfl) (by kernel_rfl) (
 TOk.cons (by kernel_rfl) (by decide) (by kernel_rfl) (by kernel_rfl) (
 TOk.cons (by kernel_rfl) (by decide) (by kernel_rfl) (by kernel_rfl) (
 TOk.cons (by kernel_rfl) (by decide) (by kernel_rfl) (by kernel_rfl) (
 TOk.cons (by kernel_rfl) (by decide) (by kernel_rfl) (by kernel_rfl) (
 TOk.cons (by kernel_rfl) (by decide) (by kernel_rfl) (by kernel_rfl) (
 TOk.cons (by kernel_rfl) (by decide) (by kernel_rfl) (by kernel_rfl) (
 TOk.cons (by kernel_rfl) (by decide) (by kernel_rfl) (by kernel_rfl) (
 TOk.cons (by kernel_rfl) (by decide) (by kernel_rfl) (by kernel_rfl) (
 TOk.cons (by kernel_rfl) (by decide) (by kernel_rfl) (by kernel_rfl) (
 TOk.cons (by kernel_rfl) (by decide) (by kernel_rfl) (by kernel_rfl) (
 TOk.cons (by kernel_rfl) (by decide) (by kernel_rfl) (by kernel_rfl) (
 TOk.cons (by kernel_rfl) (by decide) (by kernel_rfl) (by kernel_rfl) (
 TOk.cons (by kernel_rfl) (by decide) (by kernel_rfl) (by kernel_rfl) (
 TOk.cons (by kernel_rfl) (by decide) (by kernel_rfl) (by kernel_rfl) (
 TOk.cons (by kernel_rfl) (by decide) (by kernel_rfl) (by kernel_rfl) (
 TOk.cons (by kernel_rfl) (by decide) (by kernel_rfl) (by kernel_rfl) (
 TOk.cons (by kernel_rfl) (by decide) (by kernel_rfl) (by kernel_rfl) (
 TOk.cons (by kernel_rfl) (by decide) (by kernel_rfl) (by kernel_rfl) (
 TOk.cons (by kernel_rfl) (by decide) (by kernel_rfl) (by kernel_rfl) (
 TOk.cons (by kernel_rfl) (by decide) (by kernel_rfl) (by kernel_rfl) (
 TOk.cons (by kernel_rfl) (by decide) (by kernel_rfl) (by kernel_rfl) (
 TOk.cons (by kernel_rfl) (by decide) (by kernel_rfl) (by kernel_rfl) (
 TOk.cons (by kernel_rfl) (by decide) (by kernel_rfl) (by kernel_rfl) (
 TOk.cons (by kernel_rfl) (by decide) (by kernel_rfl) (by kernel_rfl) (
 TOk.cons (by kernel_rfl) (by decide) (by kernel_rfl) (by kernel_rfl) (
 TOk.cons (by kernel_rfl) (by decide) (by kernel_rfl) (by kernel_rfl) (
 TOk.cons (by kernel_rfl) (by decide) (by kernel_rfl) (by kernel_rfl) (
 TOk.cons (by kernel_rfl) (by decide) (by kernel_rfl) (by kernel_rfl) (
 TOk.cons (by kernel_rfl) (by decide) (by kernel_rfl) (by kernel_rfl) (
 TOk.cons (by kernel_rfl) (by decide) (by kernel_rfl) (by kernel_rfl) (
 TOk.cons (by kernel_rfl) (by decide) (by kernel_rfl) (by kernel_rfl) (
 TOk.cons (by kernel_rfl) (by decide) (by kernel_rfl) (by kernel_rfl) (
 TOk.cons (by kernel_rfl) (by decide) (by kernel_rfl) (by kernel_rfl) (
 TOk.cons (by kernel_rfl) (by decide) (by kernel_rfl) (by kernel_rfl) (
 TOk.cons (by kernel_rfl) (by decide) (by kernel_rfl) (by kernel_rfl) (
 TOk.cons (by kernel_rfl) (by decide) (by kernel_rfl) (by kernel_rfl) (
 TOk.cons (by kernel_rfl) (by decide) (by kernel_rfl) (by kernel_rfl) (
 TOk.cons (by kernel_rfl) (by decide) (by kernel_rfl) (by kernel_rfl) (
 TOk.cons (by kernel_rfl) (by decide) (by kernel_rfl) (by kernel_rfl) (
 TOk.cons (by kernel_rfl) (by decide) (by kernel_rfl) (by kernel_rfl) (
 TOk.cons (by kernel_rfl) (by decide) (by kernel_rfl) (by kernel_rfl) (
 TOk.cons (by kernel_rfl) (by decide) (by kernel_rfl) (by kernel_rfl) (
 TOk.cons (by kernel_rfl) (by decide) (by kernel_rfl) (by kernel_rfl) (
 TOk.cons (by kernel_rfl) (by decide) (by kernel_rfl) (by kernel_rfl) (
 TOk.cons (by kernel_rfl) (by decide) (by kernel_rfl) (by kernel_rfl) (
 TOk.cons (by kernel_rfl) (by decide) (by kernel_rfl) (by kernel_rfl) (
 TOk.cons (by kernel_rfl) (by decide) (by kernel_rfl) (by kernel_rfl) (
 TOk.cons (by kernel_rfl) (by decide) (by kernel_rfl) (by kernel_rfl) (
 TOk.cons (by kernel_rfl) (by decide) (by kernel_rfl) (by kernel_rfl) (
 TOk.cons (by kernel_rfl) (by decide) (by kernel_rfl) (by kernel_rfl) (
 TOk.cons (by kernel_rfl) (by decide) (by kernel_rfl) (by kernel_rfl) (
 TOk.cons (by kernel_rfl) (by decide) (by kernel_rfl) (by kernel_rfl) (
 TOk.cons (by kernel_rfl) (by decide) (by kernel_rfl) (by kernel_rfl) (
 TOk.cons (by kernel_rfl) (by decide) (by kernel_rfl) (by kernel_rfl) (
 TOk.cons (by kernel_rfl) (by decide) (by kernel_rfl) (by kernel_rfl) (
 TOk.cons (by kernel_rfl) (by decide) (by kernel_rfl) (by kernel_rfl) (
 TOk.cons (by kernel_rfl) (by decide) (by kernel_rfl) (by kernel_rfl) (
 TOk.cons (by kernel_rfl) (by decide) (by kernel_rfl) (by kernel_rfl) (
 TOk.cons (by kernel_rfl) (by decide) (by kernel_rfl) (by kernel_rfl) (
 TOk.cons (by kernel_rfl) (by decide) (by kernel_rfl) (by kernel_rfl) (
 TOk.cons (by kernel_rfl) (by decide) (by kernel_rfl) (by kernel_rfl) (
 TOk.cons (by kernel_rfl) (by decide) (by kernel_rfl) (by kernel_rfl) (
 TOk.cons (by kernel_rfl) (by decide) (by kernel_rfl) (by kernel_rfl) (
 TOk.cons (by kernel_rfl) (by decide) (by kernel_rfl) (by kernel_rfl) (
 TOk.cons (by kernel_rfl) (by decide) (by kernel_rfl) (by kernel_rfl) (
 TOk.cons (by kernel_rfl) (by decide) (by kernel_rfl) (by kernel_rfl) (
 TOk.cons (by kernel_rfl) (by decide) (by kernel_rfl) (by kernel_rfl) (
 TOk.cons (by kernel_rfl) (by decide) (by kernel_rfl) (by kernel_rfl) (
 TOk.cons (by kernel_rfl) (by decide) (by kernel_rfl) (by kernel_rfl) (
 TOk.cons (by kernel_rfl) (by decide) (by kernel_rfl) (by kernel_rfl) (
 TOk.cons (by kernel_rfl) (by decide) (by kernel_rfl) (by kernel_rfl) (
 TOk.cons (by kernel_rfl) (by decide) (by kernel_rfl) (by kernel_rfl) (
 TOk.cons (by kernel_rfl) (by decide) (by kernel_rfl) (by kernel_rfl) (
 TOk.cons (by kernel_rfl) (by decide) (by kernel_rfl) (by kernel_rfl) (
 TOk.cons (by kernel_rfl) (by decide) (by kernel_rfl) (by kernel_rfl) (
 TOk.cons (by kernel_rfl) (by decide) (by kernel_rfl) (by kernel_rfl) (
 TOk.cons (by kernel_rfl) (by decide) (by kernel_rfl) (by kernel_rfl) (
 TOk.cons (by kernel_rfl) (by decide) (by kernel_rfl) (by kernel_rfl) (
 TOk.cons (by kernel_rfl) (by decide) (by kernel_rfl) (by kernel_rfl) (
 TOk.cons (by kernel_rfl) (by decide) (by kernel_rfl) (by kernel_rfl) (
 TOk.cons (by kernel_rfl) (by decide) (by kernel_rfl) (by kernel_rfl) (
 TOk.cons (by kernel_rfl) (by decide) (by kernel_rfl) (by kernel_rfl) (
 TOk.cons (by kernel_rfl) (by decide) (by kernel_rfl) (by kernel_rfl) (
 TOk.cons (by kernel_rfl) (by decide) (by kernel_rfl) (by kernel_rfl) (
 TOk.cons (by kernel_rfl) (by decide) (by kernel_rfl) (by kernel_rfl) (
 TOk.cons (by kernel_rfl) (by decide) (by kernel_rfl) (by kernel_rfl) (
 TOk.cons (by kernel_rfl) (by decide) (by kernel_rfl) (by kernel_rfl) (
 TOk.cons (by kernel_rfl) (by decide) (by kernel_rfl) (by kernel_rfl) (
 TOk.cons (by kernel_rfl) (by decide) (by kernel_rfl) (by kernel_rfl) (
 TOk.cons (by kernel_rfl) (by decide) (by kernel_rfl) (by kernel_rfl) (
 TOk.cons (by kernel_rfl) (by decide) (by kernel_rfl) (by kernel_rfl) (
 TOk.cons (by kernel_rfl) (by decide) (by kernel_rfl) (by kernel_rfl) (
 TOk.cons (by kernel_rfl) (by decide) (by kernel_rfl) (by kernel_rfl) (
 TOk.cons (by kernel_rfl) (by decide) (by kernel_rfl) (by kernel_rfl) (
 TOk.cons (by kernel_rfl) (by decide) (by kernel_rfl) (by kernel_rfl) (
 TOk.nil))))))))))))))))))))))))))))))))))))))))))))))))))))))))))))))))))))))))))))))))))))))))))))))))))))))))))))))))))))))))))))))))))))))))))))
theorem mixed : Try.prog.follows .mixedOrders = true := by kernel_rfl
end Go.Proofs.Ytkbmjhabfjgoiaa
