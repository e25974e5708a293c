/- The types of this translation, as the evaluator wants them. -/
import Derived.Test.YtkbmjhabfjgoiaaGreatEvR
import Derived.Test.YtkbmjhabfjgoiaaGreatChecked
noncomputable section
set_option linter.unusedSectionVars false
set_option linter.unusedVariables false
set_option linter.unusedSimpArgs false
namespace Go.Proofs.YtkbmjhabfjgoiaaGreat
open Go Go.Ev Go.Proofs
abbrev z0 : Int := 0
abbrev z1 : Int := 1
abbrev tN (i:Int) : Nat := Int.toNat i
abbrev gI (l : List Int) (i:Int) : Int := List.getD l (Int.toNat i) (0:Int)
abbrev gT {α : Type} (l : List α) (i:Int) (d : α) : α := List.getD l (Int.toNat i) d
abbrev nL {α : Type} (l : List α) : Int := ((List.length l:Nat):Int)
abbrev _root_.Go.Ev.Tr.oI1 {τ α : Type} {i : Bool} (j:Int) (l : List α) (t : Tr τ i) : Tr τ true := .oR j ((List.length l:Nat):Int) (.od (Int.toNat j < List.length l) t)
abbrev _root_.Go.Ev.Tr.oI2 {τ α : Type} {i : Bool} (j:Int) (l : List α) (t : Tr τ i) : Tr τ true := .oR j ((List.length l:Nat):Int) (.od (Int.toNat j < List.length l) (.od (Int.toNat j < List.length l) t))
abbrev _root_.Go.Ev.Tr.oI3 {τ α : Type} {i : Bool} (j:Int) (l : List α) (t : Tr τ i) : Tr τ true := .oR j ((List.length l:Nat):Int) (.od (Int.toNat j < List.length l) (.od (Int.toNat j < List.length l) (.od (Int.toNat j < List.length l) t)))
abbrev w1 (i:Int) : Int := w64 (i + (1:Int))
abbrev wm (i:Int) : Int := w64 (i - (1:Int))
abbrev zI : Value := Value.int IntKind.i64 0
def tt : List (Nat × TI) :=
 [(1,⟨(TypeDesc.func #[] #[] Bool.false),1,8,Value.nilFunc,none⟩),
 (2,⟨(TypeDesc.int IntKind.i64),1,8,zI,some yi⟩),
 (3,⟨(TypeDesc.int IntKind.i64),1,8,zI,some yi⟩),
 (4,⟨TypeDesc.bool,1,1,(Value.bool Bool.false),some .bool⟩),
 (5,⟨(TypeDesc.int IntKind.u8),1,1,(Value.int IntKind.u8 (0:Int)),some (.int .u8)⟩),
 (6,⟨(TypeDesc.int IntKind.u8),1,1,(Value.int IntKind.u8 (0:Int)),some (.int .u8)⟩),
 (7, ⟨(TypeDesc.struct #[(Field.mk "x" 2 0 Bool.false "" "runtime" 0), (Field.mk "y" 3 1 Bool.false "" "runtime" 8), (Field.mk "signed" 4 2 Bool.false "" "runtime" 16), (Field.mk "code" 6 3 Bool.false "" "runtime" 17)]), 4, 24, (Value.agg #[zI, zI, (Value.bool Bool.false), (Value.int IntKind.u8 (0 : Int))]), some (.prod yi (.prod yi (.prod .bool (.int .u8))))⟩),
 (8, ⟨(TypeDesc.struct #[(Field.mk "x" 2 0 Bool.false "" "runtime" 0), (Field.mk "y" 3 1 Bool.false "" "runtime" 8), (Field.mk "signed" 4 2 Bool.false "" "runtime" 16), (Field.mk "code" 6 3 Bool.false "" "runtime" 17)]), 4, 24, (Value.agg #[zI, zI, (Value.bool Bool.false), (Value.int IntKind.u8 (0 : Int))]), some (.prod yi (.prod yi (.prod .bool (.int .u8))))⟩),
 (9,⟨TypeDesc.string,1,16,(Value.string (ByteArray.mk #[])),some .str⟩),
 (10,⟨TypeDesc.string,1,16,(Value.string (ByteArray.mk #[])),some .str⟩),
 (11,⟨TypeDesc.string,1,16,(Value.string (ByteArray.mk #[])),some .str⟩),
 (12,⟨(TypeDesc.int IntKind.u64),1,8,(Value.int IntKind.u64 (0:Int)),some (.int .u64)⟩),
 (15,⟨(TypeDesc.pointer 169),1,8,(Value.pointer Option.none),none⟩),
 (16,⟨(TypeDesc.pointer 172),1,8,(Value.pointer Option.none),none⟩),
 (17,⟨(TypeDesc.pointer 181),1,8,(Value.pointer Option.none),none⟩),
 (21,⟨(TypeDesc.int IntKind.i32),1,4,(Value.int IntKind.i32 (0:Int)),some (.int .i32)⟩),
 (22,⟨(TypeDesc.slice 58),1,24,(Value.slice Option.none 0 0),some (.sl yy3)⟩),
 (23,⟨(TypeDesc.slice 36),1,24,(Value.slice Option.none 0 0),some (.sl yy2)⟩),
 (24,⟨(TypeDesc.slice 85),1,24,(Value.slice Option.none 0 0),some (.sl yy9)⟩),
 (25, ⟨(TypeDesc.struct #[(Field.mk "V" 22 0 false "" "" 0), (Field.mk "T" 23 1 false "" "" 24), (Field.mk "N" 22 2 false "" "" 48), (Field.mk "Tris" 24 3 false "" "" 72)]), 4, 96, (Value.agg #[(Value.slice Option.none 0 0), (Value.slice Option.none 0 0), (Value.slice Option.none 0 0), (Value.slice Option.none 0 0)]), some (.prod (.sl yy3) (.prod (.sl yy2) (.prod (.sl yy3) (.sl yy9))))⟩),
 (26, ⟨(TypeDesc.struct #[(Field.mk "V" 22 0 false "" "" 0), (Field.mk "T" 23 1 false "" "" 24), (Field.mk "N" 22 2 false "" "" 48), (Field.mk "Tris" 24 3 false "" "" 72)]), 4, 96, (Value.agg #[(Value.slice Option.none 0 0), (Value.slice Option.none 0 0), (Value.slice Option.none 0 0), (Value.slice Option.none 0 0)]), some (.prod (.sl yy3) (.prod (.sl yy2) (.prod (.sl yy3) (.sl yy9))))⟩),
 (27,⟨(TypeDesc.slice 3),1,24,(Value.slice Option.none 0 0),some (.sl yi)⟩),
 (28, ⟨(TypeDesc.struct #[(Field.mk "Axis" 3 0 false "" "" 0), (Field.mk "Side" 3 1 false "" "" 8), (Field.mk "Tris" 27 2 false "" "" 16)]), 3, 40, (Value.agg #[zI, zI, (Value.slice Option.none 0 0)]), some (.prod yi (.prod yi (.sl yi)))⟩),
 (29, ⟨(TypeDesc.struct #[(Field.mk "Axis" 3 0 false "" "" 0), (Field.mk "Side" 3 1 false "" "" 8), (Field.mk "Tris" 27 2 false "" "" 16)]), 3, 40, (Value.agg #[zI, zI, (Value.slice Option.none 0 0)]), some (.prod yi (.prod yi (.sl yi)))⟩),
 (30,⟨(TypeDesc.slice 29),1,24,(Value.slice Option.none 0 0),some (.sl (.prod yi (.prod yi (.sl yi))))⟩),
 (31,⟨(TypeDesc.func #[26,30] #[4] Bool.false),1,8,Value.nilFunc,none⟩),
 (32,⟨(TypeDesc.func #[26] #[26] Bool.false),1,8,Value.nilFunc,none⟩),
 (34,⟨(TypeDesc.func #[26,3] #[3,3,4] Bool.false),1,8,Value.nilFunc,none⟩),
 (35, ⟨(TypeDesc.struct #[(Field.mk "X" 3 0 false "" "" 0), (Field.mk "Y" 3 1 false "" "" 8)]), 2, 16, (Value.agg #[zI, zI]), some yy2⟩),
 (36, ⟨(TypeDesc.struct #[(Field.mk "X" 3 0 false "" "" 0), (Field.mk "Y" 3 1 false "" "" 8)]), 2, 16, (Value.agg #[zI, zI]), some yy2⟩),
 (37,⟨(TypeDesc.array 3 36),6,48,(Value.agg #[zI,zI,zI,zI,zI,zI]),some (.prod yy2 (.prod yy2 yy2))⟩),
 (38,⟨(TypeDesc.int IntKind.i64),1,8,zI,some yi⟩),
 (40,⟨(TypeDesc.func #[26,3,3] #[37,38] Bool.false),1,8,Value.nilFunc,none⟩),
 (42,⟨(TypeDesc.func #[26] #[30,38] Bool.false),1,8,Value.nilFunc,none⟩),
 (43,⟨(TypeDesc.func #[30,30] #[4] Bool.false),1,8,Value.nilFunc,none⟩),
 (44,⟨(TypeDesc.func #[26,29,3] #[4] Bool.false),1,8,Value.nilFunc,none⟩),
 (45,⟨(TypeDesc.func #[26] #[4] Bool.false),1,8,Value.nilFunc,none⟩),
 (46,⟨(TypeDesc.func #[] #[4] Bool.false),1,8,Value.nilFunc,none⟩),
 (47,⟨(TypeDesc.func #[26,26] #[4] Bool.false),1,8,Value.nilFunc,none⟩),
 (48,⟨(TypeDesc.func #[26,3,3,29,30] #[4] Bool.false),1,8,Value.nilFunc,none⟩),
 (49,⟨(TypeDesc.pointer 89),1,8,(Value.pointer Option.none),none⟩),
 (51,⟨(TypeDesc.func #[26] #[49,4] Bool.false),1,8,Value.nilFunc,none⟩),
 (52, ⟨(TypeDesc.struct #[(Field.mk "axis" 3 0 Bool.false "" "limewash/chart" 0), (Field.mk "side" 3 1 Bool.false "" "limewash/chart" 8)]), 2, 16, (Value.agg #[zI, zI]), some yy2⟩),
 (53, ⟨(TypeDesc.struct #[(Field.mk "axis" 3 0 Bool.false "" "limewash/chart" 0), (Field.mk "side" 3 1 Bool.false "" "limewash/chart" 8)]), 2, 16, (Value.agg #[zI, zI]), some yy2⟩),
 (55,⟨(TypeDesc.func #[3] #[53,4] Bool.false),1,8,Value.nilFunc,none⟩),
 (56,⟨(TypeDesc.func #[26,3] #[4] Bool.false),1,8,Value.nilFunc,none⟩),
 (57, ⟨(TypeDesc.struct #[(Field.mk "X" 3 0 false "" "" 0), (Field.mk "Y" 3 1 false "" "" 8), (Field.mk "Z" 3 2 false "" "" 16)]), 3, 24, (Value.agg #[zI, zI, zI]), some yy3⟩),
 (58, ⟨(TypeDesc.struct #[(Field.mk "X" 3 0 false "" "" 0), (Field.mk "Y" 3 1 false "" "" 8), (Field.mk "Z" 3 2 false "" "" 16)]), 3, 24, (Value.agg #[zI, zI, zI]), some yy3⟩),
 (59,⟨(TypeDesc.array 3 58),9,72,(Value.agg #[zI,zI,zI,zI,zI,zI,zI,zI,zI]),some yy9⟩),
 (60,⟨(TypeDesc.func #[26,3] #[59] Bool.false),1,8,Value.nilFunc,none⟩),
 (62,⟨(TypeDesc.func #[58,58,58] #[3,3,38] Bool.false),1,8,Value.nilFunc,none⟩),
 (63,⟨(TypeDesc.func #[3] #[4] Bool.false),1,8,Value.nilFunc,none⟩),
 (64,⟨(TypeDesc.func #[3,3] #[37] Bool.false),1,8,Value.nilFunc,none⟩),
 (66,⟨(TypeDesc.func #[58,3] #[36,38] Bool.false),1,8,Value.nilFunc,none⟩),
 (67,⟨(TypeDesc.pointer 69),1,8,(Value.pointer Option.none),none⟩),
 (68, ⟨(TypeDesc.struct #[(Field.mk "body" 49 0 Bool.true "" "limewash/chart" 0), (Field.mk "way" 53 1 Bool.true "" "limewash/chart" 8), (Field.mk "tris" 27 3 Bool.false "" "limewash/chart" 24)]), 4, 48, (Value.agg #[(Value.pointer Option.none), zI, zI, (Value.slice Option.none 0 0)]), none⟩),
 (69, ⟨(TypeDesc.struct #[(Field.mk "body" 49 0 Bool.true "" "limewash/chart" 0), (Field.mk "way" 53 1 Bool.true "" "limewash/chart" 8), (Field.mk "tris" 27 3 Bool.false "" "limewash/chart" 24)]), 4, 48, (Value.agg #[(Value.pointer Option.none), zI, zI, (Value.slice Option.none 0 0)]), none⟩),
 (70,⟨(TypeDesc.func #[27,63] #[3] Bool.false),1,8,Value.nilFunc,none⟩),
 (71,⟨(TypeDesc.func #[27,3,3] #[27] Bool.false),1,8,Value.nilFunc,none⟩),
 (72,⟨(TypeDesc.slice 4),1,24,(Value.slice Option.none 0 0),some (.sl .bool)⟩),
 (73,⟨(TypeDesc.func #[26,29,72] #[3] Bool.false),1,8,Value.nilFunc,none⟩),
 (74,⟨(TypeDesc.func #[27,27] #[4] Bool.false),1,8,Value.nilFunc,none⟩),
 (75,⟨(TypeDesc.func #[27,63] #[4] Bool.false),1,8,Value.nilFunc,none⟩),
 (76,⟨(TypeDesc.func #[27,3] #[4] Bool.false),1,8,Value.nilFunc,none⟩),
 (78,⟨(TypeDesc.func #[26,3] #[27,38] Bool.false),1,8,Value.nilFunc,none⟩),
 (80,⟨(TypeDesc.func #[37,37] #[4,38] Bool.false),1,8,Value.nilFunc,none⟩),
 (81,⟨(TypeDesc.func #[22,82] #[4] Bool.false),1,8,Value.nilFunc,none⟩),
 (82,⟨(TypeDesc.func #[58] #[4] Bool.false),1,8,Value.nilFunc,none⟩),
 (83, ⟨(TypeDesc.struct #[(Field.mk "V" 3 0 false "" "" 0), (Field.mk "T" 3 1 false "" "" 8), (Field.mk "N" 3 2 false "" "" 16)]), 3, 24, (Value.agg #[zI, zI, zI]), some yy3⟩),
 (84, ⟨(TypeDesc.struct #[(Field.mk "V" 3 0 false "" "" 0), (Field.mk "T" 3 1 false "" "" 8), (Field.mk "N" 3 2 false "" "" 16)]), 3, 24, (Value.agg #[zI, zI, zI]), some yy3⟩),
 (85,⟨(TypeDesc.array 3 84),9,72,(Value.agg #[zI,zI,zI,zI,zI,zI,zI,zI,zI]),some yy9⟩),
 (86,⟨(TypeDesc.func #[3,3,3] #[85] Bool.false),1,8,Value.nilFunc,none⟩),
 (87,⟨(TypeDesc.func #[24,24] #[4] Bool.false),1,8,Value.nilFunc,none⟩),
 (88, ⟨(TypeDesc.struct #[(Field.mk "Mesh" 26 0 Bool.true "" "" 0)]), 4, 96, (Value.agg #[(Value.slice Option.none 0 0), (Value.slice Option.none 0 0), (Value.slice Option.none 0 0), (Value.slice Option.none 0 0)]), some (.prod (.sl yy3) (.prod (.sl yy2) (.prod (.sl yy3) (.sl yy9))))⟩),
 (89, ⟨(TypeDesc.struct #[(Field.mk "Mesh" 26 0 Bool.true "" "" 0)]), 4, 96, (Value.agg #[(Value.slice Option.none 0 0), (Value.slice Option.none 0 0), (Value.slice Option.none 0 0), (Value.slice Option.none 0 0)]), some (.prod (.sl yy3) (.prod (.sl yy2) (.prod (.sl yy3) (.sl yy9))))⟩),
 (90,⟨(TypeDesc.func #[3] #[59] Bool.false),1,8,Value.nilFunc,none⟩),
 (92,⟨(TypeDesc.func #[58,58,58] #[58,38] Bool.false),1,8,Value.nilFunc,none⟩),
 (93,⟨(TypeDesc.func #[58] #[3] Bool.false),1,8,Value.nilFunc,none⟩),
 (94,⟨(TypeDesc.func #[3] #[3] Bool.false),1,8,Value.nilFunc,none⟩),
 (95,⟨(TypeDesc.func #[26,3,3] #[4] Bool.false),1,8,Value.nilFunc,none⟩),
 (96,⟨(TypeDesc.func #[37] #[4] Bool.false),1,8,Value.nilFunc,none⟩),
 (97,⟨(TypeDesc.func #[37,23,4] #[4] Bool.false),1,8,Value.nilFunc,none⟩),
 (98,⟨(TypeDesc.func #[22] #[4] Bool.true),1,8,Value.nilFunc,none⟩),
 (99,⟨(TypeDesc.func #[23] #[4] Bool.true),1,8,Value.nilFunc,none⟩),
 (100,⟨(TypeDesc.func #[3,3,4] #[4] Bool.false),1,8,Value.nilFunc,none⟩),
 (101,⟨(TypeDesc.func #[22,82] #[3] Bool.false),1,8,Value.nilFunc,none⟩),
 (102,⟨(TypeDesc.func #[22] #[4] Bool.false),1,8,Value.nilFunc,none⟩),
 (103,⟨(TypeDesc.func #[23] #[4] Bool.false),1,8,Value.nilFunc,none⟩),
 (104,⟨(TypeDesc.func #[3,3,3] #[4] Bool.false),1,8,Value.nilFunc,none⟩),
 (105,⟨(TypeDesc.func #[3,3] #[3] Bool.false),1,8,Value.nilFunc,none⟩),
 (106,⟨(TypeDesc.array 3 3),3,24,(Value.agg #[zI,zI,zI]),some yy3⟩),
 (107,⟨(TypeDesc.func #[58,58] #[58,38] Bool.false),1,8,Value.nilFunc,none⟩),
 (108,⟨(TypeDesc.func #[58,58] #[58] Bool.false),1,8,Value.nilFunc,none⟩),
 (109,⟨(TypeDesc.func #[58] #[106] Bool.false),1,8,Value.nilFunc,none⟩),
 (110,⟨(TypeDesc.func #[27,3] #[3] Bool.false),1,8,Value.nilFunc,none⟩),
 (111,⟨(TypeDesc.func #[37,37,3] #[4,38] Bool.false),1,8,Value.nilFunc,none⟩),
 (112,⟨(TypeDesc.func #[113,26,3] #[27] Bool.false),1,8,Value.nilFunc,none⟩),
 (113,⟨(TypeDesc.map 127 27),1,8,(Value.map Option.none),none⟩),
 (114,⟨(TypeDesc.func #[26] #[113] Bool.false),1,8,Value.nilFunc,none⟩),
 (115,⟨(TypeDesc.func #[85,3,3] #[4] Bool.false),1,8,Value.nilFunc,none⟩),
 (117,⟨(TypeDesc.func #[36,36,36] #[3,38] Bool.false),1,8,Value.nilFunc,none⟩),
 (118,⟨(TypeDesc.func #[37,3,23] #[3] Bool.false),1,8,Value.nilFunc,none⟩),
 (119,⟨(TypeDesc.func #[27] #[4] Bool.true),1,8,Value.nilFunc,none⟩),
 (120,⟨(TypeDesc.func #[36] #[4] Bool.false),1,8,Value.nilFunc,none⟩),
 (121,⟨(TypeDesc.array 3 58),9,72,(Value.agg #[zI,zI,zI,zI,zI,zI,zI,zI,zI]),some yy9⟩),
 (122,⟨(TypeDesc.func #[] #[58,38] Bool.false),1,8,Value.nilFunc,none⟩),
 (123,⟨(TypeDesc.func #[37,3,23] #[4] Bool.true),1,8,Value.nilFunc,none⟩),
 (124,⟨(TypeDesc.slice 127),1,24,(Value.slice Option.none 0 0),some (.sl yy2)⟩),
 (125,⟨(TypeDesc.func #[85] #[124] Bool.false),1,8,Value.nilFunc,none⟩),
 (126,⟨(TypeDesc.array 2 3),2,16,(Value.agg #[zI,zI]),some yy2⟩),
 (127,⟨(TypeDesc.array 2 3),2,16,(Value.agg #[zI,zI]),some yy2⟩),
 (128,⟨(TypeDesc.func #[27] #[] Bool.false),1,8,Value.nilFunc,none⟩),
 (129,⟨(TypeDesc.func #[27] #[27] Bool.false),1,8,Value.nilFunc,none⟩),
 (130,⟨(TypeDesc.func #[36,36] #[3,38] Bool.false),1,8,Value.nilFunc,none⟩),
 (131,⟨(TypeDesc.func #[36,36] #[36] Bool.false),1,8,Value.nilFunc,none⟩),
 (132,⟨(TypeDesc.func #[37,3,36] #[3] Bool.false),1,8,Value.nilFunc,none⟩),
 (133,⟨(TypeDesc.func #[144] #[] Bool.false),1,8,Value.nilFunc,none⟩),
 (134,⟨(TypeDesc.func #[144] #[] Bool.false),1,8,Value.nilFunc,none⟩),
 (135,⟨(TypeDesc.func #[37] #[134] Bool.false),1,8,Value.nilFunc,none⟩),
 (136,⟨(TypeDesc.func #[36] #[3] Bool.false),1,8,Value.nilFunc,none⟩),
 (137,⟨(TypeDesc.func #[27,3,3,3] #[] Bool.false),1,8,Value.nilFunc,none⟩),
 (138,⟨(TypeDesc.func #[139] #[3] Bool.false),1,8,Value.nilFunc,none⟩),
 (139,⟨(TypeDesc.int IntKind.u64),1,8,(Value.int IntKind.u64 (0:Int)),some (.int .u64)⟩),
 (140,⟨(TypeDesc.func #[3,27] #[4] Bool.true),1,8,Value.nilFunc,none⟩),
 (141,⟨(TypeDesc.func #[106] #[58] Bool.false),1,8,Value.nilFunc,none⟩),
 (142,⟨(TypeDesc.array 3 36),6,48,(Value.agg #[zI,zI,zI,zI,zI,zI]),some (.prod yy2 (.prod yy2 yy2))⟩),
 (143,⟨(TypeDesc.func #[] #[3,38] Bool.false),1,8,Value.nilFunc,none⟩),
 (144,⟨(TypeDesc.func #[136] #[4] Bool.false),1,8,Value.nilFunc,none⟩),
 (145,⟨(TypeDesc.func #[27,3,3] #[] Bool.false),1,8,Value.nilFunc,none⟩),
 (146,⟨(TypeDesc.int IntKind.i64),1,8,zI,some yi⟩),
 (148,⟨(TypeDesc.func #[27,3,3] #[3,146] Bool.false),1,8,Value.nilFunc,none⟩),
 (149,⟨(TypeDesc.func #[27,3,3] #[4] Bool.false),1,8,Value.nilFunc,none⟩),
 (150,⟨(TypeDesc.func #[3,3] #[4] Bool.false),1,8,Value.nilFunc,none⟩),
 (151,⟨(TypeDesc.func #[27,3,3,3] #[3] Bool.false),1,8,Value.nilFunc,none⟩),
 (153,⟨(TypeDesc.func #[27,3,3,3] #[3,4] Bool.false),1,8,Value.nilFunc,none⟩),
 (154,⟨(TypeDesc.func #[155] #[3] Bool.false),1,8,Value.nilFunc,none⟩),
 (155,⟨(TypeDesc.int IntKind.u32),1,4,(Value.int IntKind.u32 (0:Int)),some (.int .u32)⟩),
 (156,⟨(TypeDesc.func #[157] #[3] Bool.false),1,8,Value.nilFunc,none⟩),
 (157,⟨(TypeDesc.int IntKind.u64),1,8,(Value.int IntKind.u64 (0:Int)),some (.int .u64)⟩),
 (158,⟨(TypeDesc.int IntKind.u64),1,8,(Value.int IntKind.u64 (0:Int)),some (.int .u64)⟩),
 (159,⟨(TypeDesc.func #[3] #[139] Bool.false),1,8,Value.nilFunc,none⟩),
 (160,⟨(TypeDesc.func #[] #[157] Bool.false),1,8,Value.nilFunc,none⟩),
 (161,⟨(TypeDesc.func #[27,3,162] #[3] Bool.false),1,8,Value.nilFunc,none⟩),
 (162,⟨(TypeDesc.pointer 3),1,8,(Value.pointer Option.none),none⟩),
 (163,⟨(TypeDesc.func #[27,3,3,3,162] #[3] Bool.false),1,8,Value.nilFunc,none⟩),
 (164,⟨(TypeDesc.pointer 158),1,8,(Value.pointer Option.none),none⟩),
 (166,⟨(TypeDesc.func #[27,3,3,162] #[3,3] Bool.false),1,8,Value.nilFunc,none⟩),
 (167,⟨(TypeDesc.func #[] #[9] Bool.false),1,8,Value.nilFunc,none⟩),
 (173,⟨(TypeDesc.func #[] #[3] Bool.false),1,8,Value.nilFunc,none⟩),
 (174,⟨(TypeDesc.int IntKind.u8),1,1,(Value.int IntKind.u8 (0:Int)),some (.int .u8)⟩),
 (175,⟨(TypeDesc.int IntKind.u8),1,1,(Value.int IntKind.u8 (0:Int)),some (.int .u8)⟩),
 (176,⟨(TypeDesc.func #[182,182] #[4] Bool.false),1,8,Value.nilFunc,none⟩),
 (177,⟨(TypeDesc.pointer 5),1,8,(Value.pointer Option.none),none⟩),
 (178,⟨(TypeDesc.int IntKind.i32),1,4,(Value.int IntKind.i32 (0:Int)),some (.int .i32)⟩),
 (179,⟨(TypeDesc.int IntKind.i32),1,4,(Value.int IntKind.i32 (0:Int)),some (.int .i32)⟩),
 (182,⟨TypeDesc.unsafePointer,1,8,(Value.pointer Option.none),none⟩)]
set_option maxRecDepth 100000 in
theorem tt_ok : TOk Tryz.prog tt :=
 TOk.cons (by kernel_rfl) (by decide) (by kernel_rfl) (by kernel_rfl) (
 TOk.cons (by kernel_rfl) (by decide) (by kernel_rfl) (by kernel_rfl) (
 TOk.cons (by kernel_rfl) (by decide) (by kernel_rfl) (by kernel_rfl) (
 TOk.cons (by kernel_rfl) (by decide) (by kernel_rfl) (by kernel_rfl) (
 TOk.cons (by kernel_rfl) (by decide) (by kernel_rfl) (by kernel_rfl) (
 TOk.cons (by kernel_rfl) (by decide) (by kernel_rfl) (by kernel_rfl) (
 TOk.cons (by kernel_rfl) (by decide) (by kernel_rfl) (by kernel_rfl) (
 TOk.cons (by kernel_rfl) (by decide) (by kernel_rfl) (by kernel_rfl) (
 TOk.cons (by kernel_rfl) (by decide) (by kernel_rfl) (by kernel_rfl) (
 TOk.cons (by kernel_rfl) (by decide) (by kernel_rfl) (by kernel_rfl) (
 TOk.cons (by kernel_rfl) (by decide) (by kernel_rfl) (by kernel_rfl) (
 TOk.cons (by kernel_rfl) (by decide) (by kernel_rfl) (by kernel_rfl) (
 TOk.cons (by kernel_rfl) (by decide) (by kernel_rfl) (by kernel_rfl) (
 TOk.cons (by kernel_rfl) (by decide) (by kernel_rfl) (by kernel_rfl) (
 TOk.cons (by kernel_rfl) (by decide) (by kernel_rfl) (by kernel_rfl) (
 TOk.cons (by kernel_rfl) (by decide) (by kernel_rfl) (by kernel_rfl) (
 TOk.cons (by kernel_rfl) (by decide) (by kernel_rfl) (by kernel_rfl) (
 TOk.cons (by kernel_rfl) (by decide) (by kernel_rfl) (by kernel_rfl) (
 TOk.cons (by kernel_rfl) (by decide) (by kernel_rfl) (by kernel_rfl) (
 TOk.cons (by kernel_rfl) (by decide) (by kernel_rfl) (by kernel_rfl) (
 TOk.cons (by kernel_rfl) (by decide) (by kernel_rfl) (by kernel_rfl) (
 TOk.cons (by kernel_rfl) (by decide) (by kernel_rfl) (by kernel_rfl) (
 TOk.cons (by kernel_rfl) (by decide) (by kernel_rfl) (by kernel_rfl) (
 TOk.cons (by kernel_rfl) (by decide) (by kernel_rfl) (by kernel_rfl) (
 TOk.cons (by kernel_rfl) (by decide) (by kernel_rfl) (by kernel_rfl) (
 TOk.cons (by kernel_rfl) (by decide) (by kernel_rfl) (by kernel_rfl) (
 TOk.cons (by kernel_rfl) (by decide) (by kernel_rfl) (by kernel_rfl) (
 TOk.cons (by kernel_rfl) (by decide) (by kernel_rfl) (by kernel_rfl) (
 TOk.cons (by kernel_rfl) (by decide) (by kernel_rfl) (by kernel_rfl) (
 TOk.cons (by kernel_rfl) (by decide) (by kernel_rfl) (by kernel_rfl) (
 TOk.cons (by kernel_rfl) (by decide) (by kernel_rfl) (by kernel_rfl) (
 TOk.cons (by kernel_rfl) (by decide) (by kernel_rfl) (by kernel_rfl) (
 TOk.cons (by kernel_rfl) (by decide) (by kernel_rfl) (by kernel_rfl) (
 TOk.cons (by kernel_rfl) (by decide) (by kernel_rfl) (by kernel_rfl) (
 TOk.cons (by kernel_rfl) (by decide) (by kernel_rfl) (by kernel_rfl) (
 TOk.cons (by kernel_rfl) (by decide) (by kernel_rfl) (by kernel_rfl) (
 TOk.cons (by kernel_rfl) (by decide) (by kernel_rfl) (by kernel_rfl) (
 TOk.cons (by kernel_rfl) (by decide) (by kernel_rfl) (by kernel_rfl) (
 TOk.cons (by kernel_rfl) (by decide) (by kernel_rfl) (by kernel_rfl) (
 TOk.cons (by kernel_rfl) (by decide) (by kernel_rfl) (by kernel_rfl) (
 TOk.cons (by kernel_rfl) (by decide) (by kernel_rfl) (by kernel_rfl) (
 TOk.cons (by kernel_rfl) (by decide) (by kernel_rfl) (by kernel_rfl) (
 TOk.cons (by kernel_rfl) (by decide) (by kernel_rfl) (by kernel_rfl) (
 TOk.cons (by kernel_rfl) (by decide) (by kernel_rfl) (by kernel_rfl) (
 TOk.cons (by kernel_rfl) (by decide) (by kernel_rfl) (by kernel_rfl) (
 TOk.cons (by kernel_rfl) (by decide) (by kernel_rfl) (by kernel_rfl) (
 TOk.cons (by kernel_rfl) (by decide) (by kernel_rfl) (by kernel_rfl) (
 TOk.cons (by kernel_rfl) (by decide) (by kernel_rfl) (by kernel_rfl) (
 TOk.cons (by kernel_rfl) (by decide) (by kernel_rfl) (by kernel_rfl) (
 TOk.cons (by kernel_rfl) (by decide) (by kernel_rfl) (by kernel_rfl) (
 TOk.cons (by kernel_rfl) (by decide) (by kernel_rfl) (by kernel_rfl) (
 TOk.cons (by kernel_rfl) (by decide) (by kernel_rfl) (by kernel_rfl) (
 TOk.cons (by kernel_rfl) (by decide) (by kernel_rfl) (by kernel_rfl) (
 TOk.cons (by kernel_rfl) (by decide) (by kernel_rfl) (by kernel_rfl) (
 TOk.cons (by kernel_rfl) (by decide) (by kernel_rfl) (by kernel_rfl) (
 TOk.cons (by kernel_rfl) (by decide) (by kernel_rfl) (by kernel_rfl) (
 TOk.cons (by kernel_rfl) (by decide) (by kernel_rfl) (by kernel_rfl) (
 TOk.cons (by kernel_rfl) (by decide) (by kernel_rfl) (by kernel_rfl) (
 TOk.cons (by kernel_rfl) (by decide) (by kernel_rfl) (by kernel_rfl) (
 TOk.cons (by kernel_rfl) (by decide) (by kernel_rfl) (by kernel_rfl) (
 TOk.cons (by kernel_rfl) (by decide) (by kernel_rfl) (by kernel_rfl) (
 TOk.cons (by kernel_rfl) (by decide) (by kernel_rfl) (by kernel_rfl) (
 TOk.cons (by kernel_rfl) (by decide) (by kernel_rfl) (by kernel_rfl) (
 TOk.cons (by kernel_rfl) (by decide) (by kernel_rfl) (by kernel_rfl) (
 TOk.cons (by kernel_rfl) (by decide) (by kernel_rfl) (by kernel_rfl) (
 TOk.cons (by kernel_rfl) (by decide) (by kernel_rfl) (by kernel_rfl) (
 TOk.cons (by kernel_rfl) (by decide) (by kernel_rfl) (by kernel_rfl) (
 TOk.cons (by kernel_rfl) (by decide) (by kernel_rfl) (by kernel_rfl) (
 TOk.cons (by kernel_rfl) (by decide) (by kernel_rfl) (by kernel_rfl) (
 TOk.cons (by kernel_rfl) (by decide) (by kernel_rfl) (by kernel_rfl) (
 TOk.cons (by kernel_rfl) (by decide) (by kernel_rfl) (by kernel_rfl) (
 TOk.cons (by kernel_rfl) (by decide) (by kernel_rfl) (by kernel_rfl) (
 TOk.cons (by kernel_rfl) (by decide) (by kernel_rfl) (by kernel_rfl) (
 TOk.cons (by kernel_rfl) (by decide) (by kernel_rfl) (by kernel_rfl) (
 TOk.cons (by kernel_rfl) (by decide) (by kernel_rfl) (by kernel_rfl) (
 TOk.cons (by kernel_rfl) (by decide) (by kernel_rfl) (by kernel_rfl) (
 TOk.cons (by kernel_rfl) (by decide) (by kernel_rfl) (by kernel_rfl) (
 TOk.cons (by kernel_rfl) (by decide) (by kernel_rfl) (by kernel_rfl) (
 TOk.cons (by kernel_rfl) (by decide) (by kernel_rfl) (by kernel_rfl) (
 TOk.cons (by kernel_rfl) (by decide) (by kernel_rfl) (by kernel_rfl) (
 TOk.cons (by kernel_rfl) (by decide) (by kernel_rfl) (by kernel_rfl) (
 TOk.cons (by kernel_rfl) (by decide) (by kernel_rfl) (by kernel_rfl) (
 TOk.cons (by kernel_rfl) (by decide) (by kernel_rfl) (by kernel_rfl) (
 TOk.cons (by kernel_rfl) (by decide) (by kernel_rfl) (by kernel_rfl) (
 TOk.cons (by kernel_rfl) (by decide) (by kernel_rfl) (by kernel_rfl) (
 TOk.cons (by kernel_rfl) (by decide) (by kernel_rfl) (by kernel_rfl) (
 TOk.cons (by kernel_rfl) (by decide) (by kernel_rfl) (by kernel_rfl) (
 TOk.cons (by kernel_rfl) (by decide) (by kernel_rfl) (by kernel_rfl) (
 TOk.cons (by kernel_rfl) (by decide) (by kernel_rfl) (by kernel_rfl) (
 TOk.cons (by kernel_rfl) (by decide) (by kernel_rfl) (by kernel_rfl) (
 TOk.cons (by kernel_rfl) (by decide) (by kernel_rfl) (by kernel_rfl) (
 TOk.cons (by kernel_rfl) (by decide) (by kernel_rfl) (by kernel_rfl) (
 TOk.cons (by kernel_rfl) (by decide) (by kernel_rfl) (by kernel_rfl) (
 TOk.cons (by kernel_rfl) (by decide) (by kernel_rfl) (by kernel_rfl) (
 TOk.cons (by kernel_rfl) (by decide) (by kernel_rfl) (by kernel_rfl) (
 TOk.cons (by kernel_rfl) (by decide) (by kernel_rfl) (by kernel_rfl) (
 TOk.cons (by kernel_rfl) (by decide) (by kernel_rfl) (by kernel_rfl) (
 TOk.cons (by kernel_rfl) (by decide) (by kernel_rfl) (by kernel_rfl) (
 TOk.cons (by kernel_rfl) (by decide) (by kernel_rfl) (by kernel_rfl) (
 TOk.cons (by kernel_rfl) (by decide) (by kernel_rfl) (by kernel_rfl) (
 TOk.cons (by kernel_rfl) (by decide) (by kernel_rfl) (by kernel_rfl) (
 TOk.cons (by kernel_rfl) (by decide) (by kernel_rfl) (by kernel_rfl) (
 TOk.cons (by kernel_rfl) (by decide) (by kernel_rfl) (by kernel_rfl) (
 TOk.cons (by kernel_rfl) (by decide) (by kernel_rfl) (by kernel_rfl) (
 TOk.cons (by kernel_rfl) (by decide) (by kernel_rfl) (by kernel_rfl) (
 TOk.cons (by kernel_rfl) (by decide) (by kernel_rfl) (by kernel_rfl) (
 TOk.cons (by kernel_rfl) (by decide) (by kernel_rfl) (by kernel_rfl) (
 TOk.cons (by kernel_rfl) (by decide) (by kernel_rfl) (by kernel_rfl) (
 TOk.cons (by kernel_rfl) (by decide) (by kernel_rfl) (by kernel_rfl) (
 TOk.cons (by kernel_rfl) (by decide) (by kernel_rfl) (by kernel_rfl) (
 TOk.cons (by kernel_rfl) (by decide) (by kernel_rfl) (by kernel_rfl) (
 TOk.cons (by kernel_rfl) (by decide) (by kernel_rfl) (by kernel_rfl) (
 TOk.cons (by kernel_rfl) (by decide) (by kernel_rfl) (by kernel_rfl) (
 TOk.cons (by kernel_rfl) (by decide) (by kernel_rfl) (by kernel_rfl) (
 TOk.cons (by kernel_rfl) (by decide) (by kernel_rfl) (by kernel_rfl) (
 TOk.cons (by kernel_rfl) (by decide) (by kernel_rfl) (by kernel_rfl) (
 TOk.cons (by kernel_rfl) (by decide) (by kernel_rfl) (by kernel_rfl) (
 TOk.cons (by kernel_rfl) (by decide) (by kernel_rfl) (by kernel_rfl) (
 TOk.cons (by kernel_rfl) (by decide) (by kernel_rfl) (by kernel_rfl) (
 TOk.cons (by kernel_rfl) (by decide) (by kernel_rfl) (by kernel_rfl) (
 TOk.cons (by kernel_rfl) (by decide) (by kernel_rfl) (by kernel_rfl) (
 TOk.cons (by kernel_rfl) (by decide) (by kernel_rfl) (by kernel_rfl) (
 TOk.cons (by kernel_rfl) (by decide) (by kernel_rfl) (by kernel_rfl) (
 TOk.cons (by kernel_rfl) (by decide) (by kernel_rfl) (by kernel_rfl) (
 TOk.cons (by kernel_rfl) (by decide) (by kernel_rfl) (by kernel_rfl) (
 TOk.cons (by kernel_rfl) (by decide) (by kernel_rfl) (by kernel_rfl) (
 TOk.cons (by kernel_rfl) (by decide) (by kernel_rfl) (by kernel_rfl) (
 TOk.cons (by kernel_rfl) (by decide) (by kernel_rfl) (by kernel_rfl) (
 TOk.cons (by kernel_rfl) (by decide) (by kernel_rfl) (by kernel_rfl) (
 TOk.cons (by kernel_rfl) (by decide) (by kernel_rfl) (by kernel_rfl) (
 TOk.cons (by kernel_rfl) (by decide) (by kernel_rfl) (by kernel_rfl) (
 TOk.cons (by kernel_rfl) (by decide) (by kernel_rfl) (by kernel_rfl) (
 TOk.cons (by kernel_rfl) (by decide) (by kernel_rfl) (by kernel_rfl) (
 TOk.cons (by kernel_rfl) (by decide) (by kernel_rfl) (by kernel_rfl) (
 TOk.cons (by kernel_rfl) (by decide) (by kernel_rfl) (by kernel_rfl) (
 TOk.cons (by kernel_rfl) (by decide) (by kernel_rfl) (by kernel_rfl) (
 TOk.cons (by kernel_rfl) (by decide) (by kernel_rfl) (by kernel_rfl) (
 TOk.cons (by kernel_rfl) (by decide) (by kernel_rfl) (by kernel_rfl) (
 TOk.cons (by kernel_rfl) (by decide) (by kernel_rfl) (by kernel_rfl) (
 TOk.cons (by kernel_rfl) (by decide) (by kernel_rfl) (by kernel_rfl) (
 TOk.cons (by kernel_rfl) (by decide) (by kernel_rfl) (by kernel_rfl) (
 TOk.cons (by kernel_rfl) (by decide) (by kernel_rfl) (by kernel_rfl) (
 TOk.cons (by kernel_rfl) (by decide) (by kernel_rfl) (by kernel_rfl) (
 TOk.cons (by kernel_rfl) (by decide) (by kernel_rfl) (by kernel_rfl) (
 TOk.cons (by kernel_rfl) (by decide) (by kernel_rfl) (by kernel_rfl) (
 TOk.cons (by kernel_rfl) (by decide) (by kernel_rfl) (by kernel_rfl) (
 TOk.cons (by kernel_rfl) (by decide) (by kernel_rfl) (by kernel_rfl) (
 TOk.cons (by kernel_rfl) (by decide) (by kernel_rfl) (by kernel_rfl) (
 TOk.cons (by kernel_rfl) (by decide) (by kernel_rfl) (by kernel_rfl) (
 TOk.cons (by kernel_rfl) (by decide) (by kernel_rfl) (by kernel_rfl) (
 TOk.cons (by kernel_rfl) (by decide) (by kernel_rfl) (by kernel_rfl) (
 TOk.cons (by kernel_rfl) (by decide) (by kernel_rfl) (by kernel_rfl) (
 TOk.cons (by kernel_rfl) (by decide) (by kernel_rfl) (by kernel_rfl) (
 TOk.cons (by kernel_rfl) (by decide) (by kernel_rfl) (by kernel_rfl) (
 TOk.cons (by kernel_rfl) (by decide) (by kernel_rfl) (by kernel_rfl) (
 TOk.cons (by kernel_rfl) (by decide) (by kernel_rfl) (by kernel_rfl) (
 TOk.nil))))))))))))))))))))))))))))))))))))))))))))))))))))))))))))))))))))))))))))))))))))))))))))))))))))))))))))))))))))))))))))))))))))))))))))))))))))))))))))
theorem mixed : Tryz.prog.follows .mixedOrders = true := by kernel_rfl
end Go.Proofs.YtkbmjhabfjgoiaaGreat
