/- The types of this translation, as the evaluator wants them. -/
import Derived.Test.YtpbbnoggkbfkoaaEvR
import Derived.Test.YtpbbnoggkbfkoaaChecked
noncomputable section
set_option linter.unusedSectionVars false
set_option linter.unusedVariables false
set_option linter.unusedSimpArgs false
namespace Go.Proofs.Ytpbbnoggkbfkoaa
open Go Go.Ev Go.Proofs
abbrev z0 : Int := 0
abbrev z1 : Int := 1
abbrev tN (i:Int) : Nat := Int.toNat i
abbrev gI (l : List Int) (i:Int) : Int := List.getD l (Int.toNat i) (0:Int)
abbrev gT {α : Type} (l : List α) (i:Int) (d : α) : α := List.getD l (Int.toNat i) d
abbrev nL {α : Type} (l : List α) : Int := ((List.length l:Nat):Int)
abbrev _root_.Go.Ev.Tr.oI1 {τ α : Type} {i : Bool} (j:Int) (l : List α) (t : Tr τ i) : Tr τ true := .oR j ((List.length l:Nat):Int) (.od (Int.toNat j < List.length l) t)
abbrev _root_.Go.Ev.Tr.oI2 {τ α : Type} {i : Bool} (j:Int) (l : List α) (t : Tr τ i) : Tr τ true := .oR j ((List.length l:Nat):Int) (.od (Int.toNat j < List.length l) (.od (Int.toNat j < List.length l) t))
abbrev _root_.Go.Ev.Tr.oI3 {τ α : Type} {i : Bool} (j:Int) (l : List α) (t : Tr τ i) : Tr τ true := .oR j ((List.length l:Nat):Int) (.od (Int.toNat j < List.length l) (.od (Int.toNat j < List.length l) (.od (Int.toNat j < List.length l) t)))
abbrev w1 (i:Int) : Int := w64 (i + (1:Int))
abbrev wm (i:Int) : Int := w64 (i - (1:Int))
abbrev zI : Value := Value.int IntKind.i64 0
def tt : List (Nat × TI) :=
 [(1,⟨(TypeDesc.func #[] #[] Bool.false),1,8,Value.nilFunc,none⟩),
 (2,⟨(TypeDesc.int IntKind.i64),1,8,zI,some yi⟩),
 (3,⟨(TypeDesc.int IntKind.i64),1,8,zI,some yi⟩),
 (4,⟨TypeDesc.bool,1,1,(Value.bool Bool.false),some .bool⟩),
 (5,⟨(TypeDesc.int IntKind.u8),1,1,(Value.int IntKind.u8 (0:Int)),some (.int .u8)⟩),
 (6,⟨(TypeDesc.int IntKind.u8),1,1,(Value.int IntKind.u8 (0:Int)),some (.int .u8)⟩),
 (7, ⟨(TypeDesc.struct #[(Field.mk "x" 2 0 Bool.false "" "runtime" 0), (Field.mk "y" 3 1 Bool.false "" "runtime" 8), (Field.mk "signed" 4 2 Bool.false "" "runtime" 16), (Field.mk "code" 6 3 Bool.false "" "runtime" 17)]), 4, 24, (Value.agg #[zI, zI, (Value.bool Bool.false), (Value.int IntKind.u8 (0 : Int))]), some (.prod yi (.prod yi (.prod .bool (.int .u8))))⟩),
 (8, ⟨(TypeDesc.struct #[(Field.mk "x" 2 0 Bool.false "" "runtime" 0), (Field.mk "y" 3 1 Bool.false "" "runtime" 8), (Field.mk "signed" 4 2 Bool.false "" "runtime" 16), (Field.mk "code" 6 3 Bool.false "" "runtime" 17)]), 4, 24, (Value.agg #[zI, zI, (Value.bool Bool.false), (Value.int IntKind.u8 (0 : Int))]), some (.prod yi (.prod yi (.prod .bool (.int .u8))))⟩),
 (9,⟨TypeDesc.string,1,16,(Value.string (ByteArray.mk #[])),some .str⟩),
 (10,⟨TypeDesc.string,1,16,(Value.string (ByteArray.mk #[])),some .str⟩),
 (11,⟨TypeDesc.string,1,16,(Value.string (ByteArray.mk #[])),some .str⟩),
 (12,⟨(TypeDesc.int IntKind.u64),1,8,(Value.int IntKind.u64 (0:Int)),some (.int .u64)⟩),
 (15,⟨(TypeDesc.pointer 174),1,8,(Value.pointer Option.none),none⟩),
 (16,⟨(TypeDesc.pointer 177),1,8,(Value.pointer Option.none),none⟩),
 (17,⟨(TypeDesc.pointer 186),1,8,(Value.pointer Option.none),none⟩),
 (21,⟨(TypeDesc.int IntKind.i32),1,4,(Value.int IntKind.i32 (0:Int)),some (.int .i32)⟩),
 (22,⟨(TypeDesc.slice 69),1,24,(Value.slice Option.none 0 0),some (.sl yy3)⟩),
 (23,⟨(TypeDesc.slice 42),1,24,(Value.slice Option.none 0 0),some (.sl yy2)⟩),
 (24,⟨(TypeDesc.slice 72),1,24,(Value.slice Option.none 0 0),some (.sl yy9)⟩),
 (25, ⟨(TypeDesc.struct #[(Field.mk "V" 22 0 false "" "" 0), (Field.mk "T" 23 1 false "" "" 24), (Field.mk "N" 22 2 false "" "" 48), (Field.mk "Tris" 24 3 false "" "" 72)]), 4, 96, (Value.agg #[(Value.slice Option.none 0 0), (Value.slice Option.none 0 0), (Value.slice Option.none 0 0), (Value.slice Option.none 0 0)]), some (.prod (.sl yy3) (.prod (.sl yy2) (.prod (.sl yy3) (.sl yy9))))⟩),
 (26, ⟨(TypeDesc.struct #[(Field.mk "V" 22 0 false "" "" 0), (Field.mk "T" 23 1 false "" "" 24), (Field.mk "N" 22 2 false "" "" 48), (Field.mk "Tris" 24 3 false "" "" 72)]), 4, 96, (Value.agg #[(Value.slice Option.none 0 0), (Value.slice Option.none 0 0), (Value.slice Option.none 0 0), (Value.slice Option.none 0 0)]), some (.prod (.sl yy3) (.prod (.sl yy2) (.prod (.sl yy3) (.sl yy9))))⟩),
 (27,⟨(TypeDesc.slice 3),1,24,(Value.slice Option.none 0 0),some (.sl yi)⟩),
 (28, ⟨(TypeDesc.struct #[(Field.mk "Axis" 3 0 false "" "" 0), (Field.mk "Side" 3 1 false "" "" 8), (Field.mk "Tris" 27 2 false "" "" 16)]), 3, 40, (Value.agg #[zI, zI, (Value.slice Option.none 0 0)]), some (.prod yi (.prod yi (.sl yi)))⟩),
 (29, ⟨(TypeDesc.struct #[(Field.mk "Axis" 3 0 false "" "" 0), (Field.mk "Side" 3 1 false "" "" 8), (Field.mk "Tris" 27 2 false "" "" 16)]), 3, 40, (Value.agg #[zI, zI, (Value.slice Option.none 0 0)]), some (.prod yi (.prod yi (.sl yi)))⟩),
 (30,⟨(TypeDesc.func #[26,31] #[4] Bool.false),1,8,Value.nilFunc,none⟩),
 (31,⟨(TypeDesc.slice 29),1,24,(Value.slice Option.none 0 0),some (.sl (.prod yi (.prod yi (.sl yi))))⟩),
 (32,⟨(TypeDesc.slice 43),1,24,(Value.slice Option.none 0 0),some (.sl (.prod yy2 (.prod yy2 yy2)))⟩),
 (33, ⟨(TypeDesc.struct #[(Field.mk "Tris" 27 0 false "" "" 0), (Field.mk "UV" 32 1 false "" "" 24), (Field.mk "W" 3 2 false "" "" 48), (Field.mk "H" 3 3 false "" "" 56)]), 4, 64, (Value.agg #[(Value.slice Option.none 0 0), (Value.slice Option.none 0 0), zI, zI]), some (.prod (.sl yi) (.prod (.sl (.prod yy2 (.prod yy2 yy2))) yy2))⟩),
 (34, ⟨(TypeDesc.struct #[(Field.mk "Tris" 27 0 false "" "" 0), (Field.mk "UV" 32 1 false "" "" 24), (Field.mk "W" 3 2 false "" "" 48), (Field.mk "H" 3 3 false "" "" 56)]), 4, 64, (Value.agg #[(Value.slice Option.none 0 0), (Value.slice Option.none 0 0), zI, zI]), some (.prod (.sl yi) (.prod (.sl (.prod yy2 (.prod yy2 yy2))) yy2))⟩),
 (35,⟨(TypeDesc.int IntKind.i64),1,8,zI,some yi⟩),
 (37,⟨(TypeDesc.func #[26,29,3] #[34,35] Bool.false),1,8,Value.nilFunc,none⟩),
 (38,⟨(TypeDesc.func #[] #[4] Bool.false),1,8,Value.nilFunc,none⟩),
 (39,⟨(TypeDesc.func #[34] #[4] Bool.false),1,8,Value.nilFunc,none⟩),
 (40,⟨(TypeDesc.func #[27,27] #[4] Bool.false),1,8,Value.nilFunc,none⟩),
 (41, ⟨(TypeDesc.struct #[(Field.mk "X" 3 0 false "" "" 0), (Field.mk "Y" 3 1 false "" "" 8)]), 2, 16, (Value.agg #[zI, zI]), some yy2⟩),
 (42, ⟨(TypeDesc.struct #[(Field.mk "X" 3 0 false "" "" 0), (Field.mk "Y" 3 1 false "" "" 8)]), 2, 16, (Value.agg #[zI, zI]), some yy2⟩),
 (43,⟨(TypeDesc.array 3 42),6,48,(Value.agg #[zI,zI,zI,zI,zI,zI]),some (.prod yy2 (.prod yy2 yy2))⟩),
 (45,⟨(TypeDesc.func #[26,3,3] #[43,35] Bool.false),1,8,Value.nilFunc,none⟩),
 (47,⟨(TypeDesc.func #[42,42,42] #[3,35] Bool.false),1,8,Value.nilFunc,none⟩),
 (48,⟨(TypeDesc.func #[26,29,3] #[4] Bool.false),1,8,Value.nilFunc,none⟩),
 (50,⟨(TypeDesc.func #[34,42] #[32,35] Bool.false),1,8,Value.nilFunc,none⟩),
 (52,⟨(TypeDesc.func #[43,43] #[4,35] Bool.false),1,8,Value.nilFunc,none⟩),
 (54,⟨(TypeDesc.func #[32] #[42,42,35] Bool.true),1,8,Value.nilFunc,none⟩),
 (55,⟨(TypeDesc.func #[32,34,42] #[4] Bool.false),1,8,Value.nilFunc,none⟩),
 (57,⟨(TypeDesc.func #[26] #[31,35] Bool.false),1,8,Value.nilFunc,none⟩),
 (58,⟨(TypeDesc.func #[26,3,3] #[4] Bool.false),1,8,Value.nilFunc,none⟩),
 (59,⟨(TypeDesc.func #[26] #[4] Bool.false),1,8,Value.nilFunc,none⟩),
 (61,⟨(TypeDesc.func #[26,3] #[3,3,4] Bool.false),1,8,Value.nilFunc,none⟩),
 (62,⟨(TypeDesc.func #[42] #[42] Bool.false),1,8,Value.nilFunc,none⟩),
 (63,⟨(TypeDesc.func #[32,62] #[32] Bool.false),1,8,Value.nilFunc,none⟩),
 (64,⟨(TypeDesc.func #[32] #[4] Bool.false),1,8,Value.nilFunc,none⟩),
 (66,⟨(TypeDesc.func #[42] #[3,3] Bool.false),1,8,Value.nilFunc,none⟩),
 (67,⟨(TypeDesc.func #[27] #[27] Bool.false),1,8,Value.nilFunc,none⟩),
 (68, ⟨(TypeDesc.struct #[(Field.mk "X" 3 0 false "" "" 0), (Field.mk "Y" 3 1 false "" "" 8), (Field.mk "Z" 3 2 false "" "" 16)]), 3, 24, (Value.agg #[zI, zI, zI]), some yy3⟩),
 (69, ⟨(TypeDesc.struct #[(Field.mk "X" 3 0 false "" "" 0), (Field.mk "Y" 3 1 false "" "" 8), (Field.mk "Z" 3 2 false "" "" 16)]), 3, 24, (Value.agg #[zI, zI, zI]), some yy3⟩),
 (70, ⟨(TypeDesc.struct #[(Field.mk "V" 3 0 false "" "" 0), (Field.mk "T" 3 1 false "" "" 8), (Field.mk "N" 3 2 false "" "" 16)]), 3, 24, (Value.agg #[zI, zI, zI]), some yy3⟩),
 (71, ⟨(TypeDesc.struct #[(Field.mk "V" 3 0 false "" "" 0), (Field.mk "T" 3 1 false "" "" 8), (Field.mk "N" 3 2 false "" "" 16)]), 3, 24, (Value.agg #[zI, zI, zI]), some yy3⟩),
 (72,⟨(TypeDesc.array 3 71),9,72,(Value.agg #[zI,zI,zI,zI,zI,zI,zI,zI,zI]),some yy9⟩),
 (73,⟨(TypeDesc.func #[3] #[3,35] Bool.false),1,8,Value.nilFunc,none⟩),
 (74,⟨(TypeDesc.func #[43] #[4] Bool.false),1,8,Value.nilFunc,none⟩),
 (75,⟨(TypeDesc.func #[32,74] #[4] Bool.false),1,8,Value.nilFunc,none⟩),
 (76,⟨(TypeDesc.pointer 100),1,8,(Value.pointer Option.none),none⟩),
 (78,⟨(TypeDesc.func #[26] #[76,4] Bool.false),1,8,Value.nilFunc,none⟩),
 (79,⟨(TypeDesc.func #[3] #[4] Bool.false),1,8,Value.nilFunc,none⟩),
 (80,⟨(TypeDesc.func #[3,3] #[43] Bool.false),1,8,Value.nilFunc,none⟩),
 (81,⟨(TypeDesc.array 3 42),6,48,(Value.agg #[zI,zI,zI,zI,zI,zI]),some (.prod yy2 (.prod yy2 yy2))⟩),
 (82,⟨(TypeDesc.func #[] #[3,35] Bool.false),1,8,Value.nilFunc,none⟩),
 (83,⟨(TypeDesc.func #[43,43,3] #[4,35] Bool.false),1,8,Value.nilFunc,none⟩),
 (84,⟨(TypeDesc.func #[108] #[] Bool.false),1,8,Value.nilFunc,none⟩),
 (85,⟨(TypeDesc.func #[108] #[] Bool.false),1,8,Value.nilFunc,none⟩),
 (86,⟨(TypeDesc.func #[32] #[85] Bool.false),1,8,Value.nilFunc,none⟩),
 (87,⟨(TypeDesc.func #[23] #[4] Bool.true),1,8,Value.nilFunc,none⟩),
 (88, ⟨(TypeDesc.struct #[(Field.mk "axis" 3 0 Bool.false "" "limewash/chart" 0), (Field.mk "side" 3 1 Bool.false "" "limewash/chart" 8)]), 2, 16, (Value.agg #[zI, zI]), some yy2⟩),
 (89, ⟨(TypeDesc.struct #[(Field.mk "axis" 3 0 Bool.false "" "limewash/chart" 0), (Field.mk "side" 3 1 Bool.false "" "limewash/chart" 8)]), 2, 16, (Value.agg #[zI, zI]), some yy2⟩),
 (91,⟨(TypeDesc.func #[3] #[89,4] Bool.false),1,8,Value.nilFunc,none⟩),
 (92,⟨(TypeDesc.pointer 94),1,8,(Value.pointer Option.none),none⟩),
 (93, ⟨(TypeDesc.struct #[(Field.mk "body" 76 0 Bool.true "" "limewash/chart" 0), (Field.mk "way" 89 1 Bool.true "" "limewash/chart" 8), (Field.mk "tris" 27 3 Bool.false "" "limewash/chart" 24)]), 4, 48, (Value.agg #[(Value.pointer Option.none), zI, zI, (Value.slice Option.none 0 0)]), none⟩),
 (94, ⟨(TypeDesc.struct #[(Field.mk "body" 76 0 Bool.true "" "limewash/chart" 0), (Field.mk "way" 89 1 Bool.true "" "limewash/chart" 8), (Field.mk "tris" 27 3 Bool.false "" "limewash/chart" 24)]), 4, 48, (Value.agg #[(Value.pointer Option.none), zI, zI, (Value.slice Option.none 0 0)]), none⟩),
 (95,⟨(TypeDesc.func #[27,79] #[3] Bool.false),1,8,Value.nilFunc,none⟩),
 (96,⟨(TypeDesc.func #[27,3,3] #[27] Bool.false),1,8,Value.nilFunc,none⟩),
 (97,⟨(TypeDesc.func #[32] #[32] Bool.false),1,8,Value.nilFunc,none⟩),
 (98,⟨(TypeDesc.func #[32,74] #[3] Bool.false),1,8,Value.nilFunc,none⟩),
 (99, ⟨(TypeDesc.struct #[(Field.mk "Mesh" 26 0 Bool.true "" "" 0)]), 4, 96, (Value.agg #[(Value.slice Option.none 0 0), (Value.slice Option.none 0 0), (Value.slice Option.none 0 0), (Value.slice Option.none 0 0)]), some (.prod (.sl yy3) (.prod (.sl yy2) (.prod (.sl yy3) (.sl yy9))))⟩),
 (100, ⟨(TypeDesc.struct #[(Field.mk "Mesh" 26 0 Bool.true "" "" 0)]), 4, 96, (Value.agg #[(Value.slice Option.none 0 0), (Value.slice Option.none 0 0), (Value.slice Option.none 0 0), (Value.slice Option.none 0 0)]), some (.prod (.sl yy3) (.prod (.sl yy2) (.prod (.sl yy3) (.sl yy9))))⟩),
 (101,⟨(TypeDesc.array 3 69),9,72,(Value.agg #[zI,zI,zI,zI,zI,zI,zI,zI,zI]),some yy9⟩),
 (102,⟨(TypeDesc.func #[3] #[101] Bool.false),1,8,Value.nilFunc,none⟩),
 (104,⟨(TypeDesc.func #[69,3] #[42,35] Bool.false),1,8,Value.nilFunc,none⟩),
 (105,⟨(TypeDesc.func #[42,42] #[3,35] Bool.false),1,8,Value.nilFunc,none⟩),
 (106,⟨(TypeDesc.func #[42,42] #[42] Bool.false),1,8,Value.nilFunc,none⟩),
 (107,⟨(TypeDesc.func #[43,3,23] #[4] Bool.true),1,8,Value.nilFunc,none⟩),
 (108,⟨(TypeDesc.func #[42] #[4] Bool.false),1,8,Value.nilFunc,none⟩),
 (109,⟨(TypeDesc.func #[3,27] #[4] Bool.true),1,8,Value.nilFunc,none⟩),
 (111,⟨(TypeDesc.func #[69,69,69] #[3,3,35] Bool.false),1,8,Value.nilFunc,none⟩),
 (112,⟨(TypeDesc.func #[27,3] #[4] Bool.false),1,8,Value.nilFunc,none⟩),
 (113,⟨(TypeDesc.func #[27,79] #[4] Bool.false),1,8,Value.nilFunc,none⟩),
 (115,⟨(TypeDesc.func #[26,3] #[27,35] Bool.false),1,8,Value.nilFunc,none⟩),
 (116,⟨(TypeDesc.func #[22,117] #[4] Bool.false),1,8,Value.nilFunc,none⟩),
 (117,⟨(TypeDesc.func #[69] #[4] Bool.false),1,8,Value.nilFunc,none⟩),
 (118,⟨(TypeDesc.array 3 3),3,24,(Value.agg #[zI,zI,zI]),some yy3⟩),
 (119,⟨(TypeDesc.func #[69] #[118] Bool.false),1,8,Value.nilFunc,none⟩),
 (120,⟨(TypeDesc.func #[136] #[] Bool.false),1,8,Value.nilFunc,none⟩),
 (121,⟨(TypeDesc.func #[136] #[] Bool.false),1,8,Value.nilFunc,none⟩),
 (122,⟨(TypeDesc.func #[43] #[121] Bool.false),1,8,Value.nilFunc,none⟩),
 (123,⟨(TypeDesc.func #[42] #[3] Bool.false),1,8,Value.nilFunc,none⟩),
 (125,⟨(TypeDesc.func #[69,69,69] #[69,35] Bool.false),1,8,Value.nilFunc,none⟩),
 (126,⟨(TypeDesc.func #[69] #[3] Bool.false),1,8,Value.nilFunc,none⟩),
 (127,⟨(TypeDesc.func #[3,3] #[3] Bool.false),1,8,Value.nilFunc,none⟩),
 (128,⟨(TypeDesc.func #[27,3] #[3] Bool.false),1,8,Value.nilFunc,none⟩),
 (129,⟨(TypeDesc.func #[130,26,3] #[27] Bool.false),1,8,Value.nilFunc,none⟩),
 (130,⟨(TypeDesc.map 143 27),1,8,(Value.map Option.none),none⟩),
 (131,⟨(TypeDesc.func #[26] #[130] Bool.false),1,8,Value.nilFunc,none⟩),
 (132,⟨(TypeDesc.func #[22] #[4] Bool.true),1,8,Value.nilFunc,none⟩),
 (133,⟨(TypeDesc.func #[3,3,4] #[4] Bool.false),1,8,Value.nilFunc,none⟩),
 (134,⟨(TypeDesc.func #[22,117] #[3] Bool.false),1,8,Value.nilFunc,none⟩),
 (135,⟨(TypeDesc.func #[27] #[4] Bool.true),1,8,Value.nilFunc,none⟩),
 (136,⟨(TypeDesc.func #[123] #[4] Bool.false),1,8,Value.nilFunc,none⟩),
 (137,⟨(TypeDesc.array 3 69),9,72,(Value.agg #[zI,zI,zI,zI,zI,zI,zI,zI,zI]),some yy9⟩),
 (138,⟨(TypeDesc.func #[] #[69,35] Bool.false),1,8,Value.nilFunc,none⟩),
 (139,⟨(TypeDesc.func #[3] #[3] Bool.false),1,8,Value.nilFunc,none⟩),
 (140,⟨(TypeDesc.slice 143),1,24,(Value.slice Option.none 0 0),some (.sl yy2)⟩),
 (141,⟨(TypeDesc.func #[72] #[140] Bool.false),1,8,Value.nilFunc,none⟩),
 (142,⟨(TypeDesc.array 2 3),2,16,(Value.agg #[zI,zI]),some yy2⟩),
 (143,⟨(TypeDesc.array 2 3),2,16,(Value.agg #[zI,zI]),some yy2⟩),
 (144,⟨(TypeDesc.func #[27] #[] Bool.false),1,8,Value.nilFunc,none⟩),
 (145,⟨(TypeDesc.func #[69,69] #[69,35] Bool.false),1,8,Value.nilFunc,none⟩),
 (146,⟨(TypeDesc.func #[69,69] #[69] Bool.false),1,8,Value.nilFunc,none⟩),
 (147,⟨(TypeDesc.func #[27,3,3,3] #[] Bool.false),1,8,Value.nilFunc,none⟩),
 (148,⟨(TypeDesc.func #[149] #[3] Bool.false),1,8,Value.nilFunc,none⟩),
 (149,⟨(TypeDesc.int IntKind.u64),1,8,(Value.int IntKind.u64 (0:Int)),some (.int .u64)⟩),
 (150,⟨(TypeDesc.func #[118] #[69] Bool.false),1,8,Value.nilFunc,none⟩),
 (151,⟨(TypeDesc.func #[27,3,3] #[] Bool.false),1,8,Value.nilFunc,none⟩),
 (152,⟨(TypeDesc.int IntKind.i64),1,8,zI,some yi⟩),
 (154,⟨(TypeDesc.func #[27,3,3] #[3,152] Bool.false),1,8,Value.nilFunc,none⟩),
 (155,⟨(TypeDesc.func #[27,3,3] #[4] Bool.false),1,8,Value.nilFunc,none⟩),
 (156,⟨(TypeDesc.func #[3,3] #[4] Bool.false),1,8,Value.nilFunc,none⟩),
 (157,⟨(TypeDesc.func #[27,3,3,3] #[3] Bool.false),1,8,Value.nilFunc,none⟩),
 (159,⟨(TypeDesc.func #[27,3,3,3] #[3,4] Bool.false),1,8,Value.nilFunc,none⟩),
 (160,⟨(TypeDesc.func #[161] #[3] Bool.false),1,8,Value.nilFunc,none⟩),
 (161,⟨(TypeDesc.int IntKind.u32),1,4,(Value.int IntKind.u32 (0:Int)),some (.int .u32)⟩),
 (162,⟨(TypeDesc.func #[163] #[3] Bool.false),1,8,Value.nilFunc,none⟩),
 (163,⟨(TypeDesc.int IntKind.u64),1,8,(Value.int IntKind.u64 (0:Int)),some (.int .u64)⟩),
 (164,⟨(TypeDesc.int IntKind.u64),1,8,(Value.int IntKind.u64 (0:Int)),some (.int .u64)⟩),
 (165,⟨(TypeDesc.func #[3] #[149] Bool.false),1,8,Value.nilFunc,none⟩),
 (166,⟨(TypeDesc.func #[] #[163] Bool.false),1,8,Value.nilFunc,none⟩),
 (167,⟨(TypeDesc.func #[27,3,168] #[3] Bool.false),1,8,Value.nilFunc,none⟩),
 (168,⟨(TypeDesc.pointer 3),1,8,(Value.pointer Option.none),none⟩),
 (169,⟨(TypeDesc.func #[27,3,3,3,168] #[3] Bool.false),1,8,Value.nilFunc,none⟩),
 (170,⟨(TypeDesc.pointer 164),1,8,(Value.pointer Option.none),none⟩),
 (171,⟨(TypeDesc.func #[27,3,3,168] #[3,3] Bool.false),1,8,Value.nilFunc,none⟩),
 (172,⟨(TypeDesc.func #[] #[9] Bool.false),1,8,Value.nilFunc,none⟩),
 (178,⟨(TypeDesc.func #[] #[3] Bool.false),1,8,Value.nilFunc,none⟩),
 (179,⟨(TypeDesc.int IntKind.u8),1,1,(Value.int IntKind.u8 (0:Int)),some (.int .u8)⟩),
 (180,⟨(TypeDesc.int IntKind.u8),1,1,(Value.int IntKind.u8 (0:Int)),some (.int .u8)⟩),
 (181,⟨(TypeDesc.func #[187,187] #[4] Bool.false),1,8,Value.nilFunc,none⟩),
 (182,⟨(TypeDesc.pointer 5),1,8,(Value.pointer Option.none),none⟩),
 (183,⟨(TypeDesc.int IntKind.i32),1,4,(Value.int IntKind.i32 (0:Int)),some (.int .i32)⟩),
 (184,⟨(TypeDesc.int IntKind.i32),1,4,(Value.int IntKind.i32 (0:Int)),some (.int .i32)⟩),
 (187,⟨TypeDesc.unsafePointer,1,8,(Value.pointer Option.none),none⟩)]
set_option maxRecDepth 100000 in
theorem tt_ok : TOk Try.prog tt :=
 TOk.cons (by kernel_rfl) (by decide) (by kernel_rfl) (by kernel_rfl) (
 TOk.cons (by kernel_rfl) (by decide) (by kernel_rfl) (by kernel_rfl) (
 TOk.cons (by kernel_rfl) (by decide) (by kernel_rfl) (by kernel_rfl) (
 TOk.cons (by kernel_rfl) (by decide) (by kernel_rfl) (by kernel_rfl) (
 TOk.cons (by kernel_rfl) (by decide) (by kernel_rfl) (by kernel_rfl) (
 TOk.cons (by kernel_rfl) (by decide) (by kernel_rfl) (by kernel_rfl) (
 TOk.cons (by kernel_rfl) (by decide) (by kernel_rfl) (by kernel_rfl) (
 TOk.cons (by kernel_rfl) (by decide) (by kernel_rfl) (by kernel_rfl) (
 TOk.cons (by kernel_rfl) (by decide) (by kernel_rfl) (by kernel_rfl) (
 TOk.cons (by kernel_rfl) (by decide) (by kernel_rfl) (by kernel_rfl) (
 TOk.cons (by kernel_rfl) (by decide) (by kernel_rfl) (by kernel_rfl) (
 TOk.cons (by kernel_rfl) (by decide) (by kernel_rfl) (by kernel_rfl) (
 TOk.cons (by kernel_rfl) (by decide) (by kernel_rfl) (by kernel_rfl) (
 TOk.cons (by kernel_rfl) (by decide) (by kernel_rfl) (by kernel_rfl) (
 TOk.cons (by kernel_rfl) (by decide) (by kernel_rfl) (by kernel_rfl) (
 TOk.cons (by kernel_rfl) (by decide) (by kernel_rfl) (by kernel_rfl) (
 TOk.cons (by kernel_rfl) (by decide) (by kernel_rfl) (by kernel_rfl) (
 TOk.cons (by kernel_rfl) (by decide) (by kernel_rfl) (by kernel_rfl) (
 TOk.cons (by kernel_rfl) (by decide) (by kernel_rfl) (by kernel_rfl) (
 TOk.cons (by kernel_rfl) (by decide) (by kernel_rfl) (by kernel_rfl) (
 TOk.cons (by kernel_rfl) (by decide) (by kernel_rfl) (by kernel_rfl) (
 TOk.cons (by kernel_rfl) (by decide) (by kernel_rfl) (by kernel_rfl) (
 TOk.cons (by kernel_rfl) (by decide) (by kernel_rfl) (by kernel_rfl) (
 TOk.cons (by kernel_rfl) (by decide) (by kernel_rfl) (by kernel_rfl) (
 TOk.cons (by kernel_rfl) (by decide) (by kernel_rfl) (by kernel_rfl) (
 TOk.cons (by kernel_rfl) (by decide) (by kernel_rfl) (by kernel_rfl) (
 TOk.cons (by kernel_rfl) (by decide) (by kernel_rfl) (by kernel_rfl) (
 TOk.cons (by kernel_rfl) (by decide) (by kernel_rfl) (by kernel_rfl) (
 TOk.cons (by kernel_rfl) (by decide) (by kernel_rfl) (by kernel_rfl) (
 TOk.cons (by kernel_rfl) (by decide) (by kernel_rfl) (by kernel_rfl) (
 TOk.cons (by kernel_rfl) (by decide) (by kernel_rfl) (by kernel_rfl) (
 TOk.cons (by kernel_rfl) (by decide) (by kernel_rfl) (by kernel_rfl) (
 TOk.cons (by kernel_rfl) (by decide) (by kernel_rfl) (by kernel_rfl) (
 TOk.cons (by kernel_rfl) (by decide) (by kernel_rfl) (by kernel_rfl) (
 TOk.cons (by kernel_rfl) (by decide) (by kernel_rfl) (by kernel_rfl) (
 TOk.cons (by kernel_rfl) (by decide) (by kernel_rfl) (by kernel_rfl) (
 TOk.cons (by kernel_rfl) (by decide) (by kernel_rfl) (by kernel_rfl) (
 TOk.cons (by kernel_rfl) (by decide) (by kernel_rfl) (by kernel_rfl) (
 TOk.cons (by kernel_rfl) (by decide) (by kernel_rfl) (by kernel_rfl) (
 TOk.cons (by kernel_rfl) (by decide) (by kernel_rfl) (by kernel_rfl) (
 TOk.cons (by kernel_rfl) (by decide) (by kernel_rfl) (by kernel_rfl) (
 TOk.cons (by kernel_rfl) (by decide) (by kernel_rfl) (by kernel_rfl) (
 TOk.cons (by kernel_rfl) (by decide) (by kernel_rfl) (by kernel_rfl) (
 TOk.cons (by kernel_rfl) (by decide) (by kernel_rfl) (by kernel_rfl) (
 TOk.cons (by kernel_rfl) (by decide) (by kernel_rfl) (by kernel_rfl) (
 TOk.cons (by kernel_rfl) (by decide) (by kernel_rfl) (by kernel_rfl) (
 TOk.cons (by kernel_rfl) (by decide) (by kernel_rfl) (by kernel_rfl) (
 TOk.cons (by kernel_rfl) (by decide) (by kernel_rfl) (by kernel_rfl) (
 TOk.cons (by kernel_rfl) (by decide) (by kernel_rfl) (by kernel_rfl) (
 TOk.cons (by kernel_rfl) (by decide) (by kernel_rfl) (by kernel_rfl) (
 TOk.cons (by kernel_rfl) (by decide) (by kernel_rfl) (by kernel_rfl) (
 TOk.cons (by kernel_rfl) (by decide) (by kernel_rfl) (by kernel_rfl) (
 TOk.cons (by kernel_rfl) (by decide) (by kernel_rfl) (by kernel_rfl) (
 TOk.cons (by kernel_rfl) (by decide) (by kernel_rfl) (by kernel_rfl) (
 TOk.cons (by kernel_rfl) (by decide) (by kernel_rfl) (by kernel_rfl) (
 TOk.cons (by kernel_rfl) (by decide) (by kernel_rfl) (by kernel_rfl) (
 TOk.cons (by kernel_rfl) (by decide) (by kernel_rfl) (by kernel_rfl) (
 TOk.cons (by kernel_rfl) (by decide) (by kernel_rfl) (by kernel_rfl) (
 TOk.cons (by kernel_rfl) (by decide) (by kernel_rfl) (by kernel_rfl) (
 TOk.cons (by kernel_rfl) (by decide) (by kernel_rfl) (by kernel_rfl) (
 TOk.cons (by kernel_rfl) (by decide) (by kernel_rfl) (by kernel_rfl) (
 TOk.cons (by kernel_rfl) (by decide) (by kernel_rfl) (by kernel_rfl) (
 TOk.cons (by kernel_rfl) (by decide) (by kernel_rfl) (by kernel_rfl) (
 TOk.cons (by kernel_rfl) (by decide) (by kernel_rfl) (by kernel_rfl) (
 TOk.cons (by kernel_rfl) (by decide) (by kernel_rfl) (by kernel_rfl) (
 TOk.cons (by kernel_rfl) (by decide) (by kernel_rfl) (by kernel_rfl) (
 TOk.cons (by kernel_rfl) (by decide) (by kernel_rfl) (by kernel_rfl) (
 TOk.cons (by kernel_rfl) (by decide) (by kernel_rfl) (by kernel_rfl) (
 TOk.cons (by kernel_rfl) (by decide) (by kernel_rfl) (by kernel_rfl) (
 TOk.cons (by kernel_rfl) (by decide) (by kernel_rfl) (by kernel_rfl) (
 TOk.cons (by kernel_rfl) (by decide) (by kernel_rfl) (by kernel_rfl) (
 TOk.cons (by kernel_rfl) (by decide) (by kernel_rfl) (by kernel_rfl) (
 TOk.cons (by kernel_rfl) (by decide) (by kernel_rfl) (by kernel_rfl) (
 TOk.cons (by kernel_rfl) (by decide) (by kernel_rfl) (by kernel_rfl) (
 TOk.cons (by kernel_rfl) (by decide) (by kernel_rfl) (by kernel_rfl) (
 TOk.cons (by kernel_rfl) (by decide) (by kernel_rfl) (by kernel_rfl) (
 TOk.cons (by kernel_rfl) (by decide) (by kernel_rfl) (by kernel_rfl) (
 TOk.cons (by kernel_rfl) (by decide) (by kernel_rfl) (by kernel_rfl) (
 TOk.cons (by kernel_rfl) (by decide) (by kernel_rfl) (by kernel_rfl) (
 TOk.cons (by kernel_rfl) (by decide) (by kernel_rfl) (by kernel_rfl) (
 TOk.cons (by kernel_rfl) (by decide) (by kernel_rfl) (by kernel_rfl) (
 TOk.cons (by kernel_rfl) (by decide) (by kernel_rfl) (by kernel_rfl) (
 TOk.cons (by kernel_rfl) (by decide) (by kernel_rfl) (by kernel_rfl) (
 TOk.cons (by kernel_rfl) (by decide) (by kernel_rfl) (by kernel_rfl) (
 TOk.cons (by kernel_rfl) (by decide) (by kernel_rfl) (by kernel_rfl) (
 TOk.cons (by kernel_rfl) (by decide) (by kernel_rfl) (by kernel_rfl) (
 TOk.cons (by kernel_rfl) (by decide) (by kernel_rfl) (by kernel_rfl) (
 TOk.cons (by kernel_rfl) (by decide) (by kernel_rfl) (by kernel_rfl) (
 TOk.cons (by kernel_rfl) (by decide) (by kernel_rfl) (by kernel_rfl) (
 TOk.cons (by kernel_rfl) (by decide) (by kernel_rfl) (by kernel_rfl) (
 TOk.cons (by kernel_rfl) (by decide) (by kernel_rfl) (by kernel_rfl) (
 TOk.cons (by kernel_rfl) (by decide) (by kernel_rfl) (by kernel_rfl) (
 TOk.cons (by kernel_rfl) (by decide) (by kernel_rfl) (by kernel_rfl) (
 TOk.cons (by kernel_rfl) (by decide) (by kernel_rfl) (by kernel_rfl) (
 TOk.cons (by kernel_rfl) (by decide) (by kernel_rfl) (by kernel_rfl) (
 TOk.cons (by kernel_rfl) (by decide) (by kernel_rfl) (by kernel_rfl) (
 TOk.cons (by kernel_rfl) (by decide) (by kernel_rfl) (by kernel_rfl) (
 TOk.cons (by kernel_rfl) (by decide) (by kernel_rfl) (by kernel_rfl) (
 TOk.cons (by kernel_rfl) (by decide) (by kernel_rfl) (by kernel_rfl) (
 TOk.cons (by kernel_rfl) (by decide) (by kernel_rfl) (by kernel_rfl) (
 TOk.cons (by kernel_rfl) (by decide) (by kernel_rfl) (by kernel_rfl) (
 TOk.cons (by kernel_rfl) (by decide) (by kernel_rfl) (by kernel_rfl) (
 TOk.cons (by kernel_rfl) (by decide) (by kernel_rfl) (by kernel_rfl) (
 TOk.cons (by kernel_rfl) (by decide) (by kernel_rfl) (by kernel_rfl) (
 TOk.cons (by kernel_rfl) (by decide) (by kernel_rfl) (by kernel_rfl) (
 TOk.cons (by kernel_rfl) (by decide) (by kernel_rfl) (by kernel_rfl) (
 TOk.cons (by kernel_rfl) (by decide) (by kernel_rfl) (by kernel_rfl) (
 TOk.cons (by kernel_rfl) (by decide) (by kernel_rfl) (by kernel_rfl) (
 TOk.cons (by kernel_rfl) (by decide) (by kernel_rfl) (by kernel_rfl) (
 TOk.cons (by kernel_rfl) (by decide) (by kernel_rfl) (by kernel_rfl) (
 TOk.cons (by kernel_rfl) (by decide) (by kernel_rfl) (by kernel_rfl) (
 TOk.cons (by kernel_rfl) (by decide) (by kernel_rfl) (by kernel_rfl) (
 TOk.cons (by kernel_rfl) (by decide) (by kernel_rfl) (by kernel_rfl) (
 TOk.cons (by kernel_rfl) (by decide) (by kernel_rfl) (by kernel_rfl) (
 TOk.cons (by kernel_rfl) (by decide) (by kernel_rfl) (by kernel_rfl) (
 TOk.cons (by kernel_rfl) (by decide) (by kernel_rfl) (by kernel_rfl) (
 TOk.cons (by kernel_rfl) (by decide) (by kernel_rfl) (by kernel_rfl) (
 TOk.cons (by kernel_rfl) (by decide) (by kernel_rfl) (by kernel_rfl) (
 TOk.cons (by kernel_rfl) (by decide) (by kernel_rfl) (by kernel_rfl) (
 TOk.cons (by kernel_rfl) (by decide) (by kernel_rfl) (by kernel_rfl) (
 TOk.cons (by kernel_rfl) (by decide) (by kernel_rfl) (by kernel_rfl) (
 TOk.cons (by kernel_rfl) (by decide) (by kernel_rfl) (by kernel_rfl) (
 TOk.cons (by kernel_rfl) (by decide) (by kernel_rfl) (by kernel_rfl) (
 TOk.cons (by kernel_rfl) (by decide) (by kernel_rfl) (by kernel_rfl) (
 TOk.cons (by kernel_rfl) (by decide) (by kernel_rfl) (by kernel_rfl) (
 TOk.cons (by kernel_rfl) (by decide) (by kernel_rfl) (by kernel_rfl) (
 TOk.cons (by kernel_rfl) (by decide) (by kernel_rfl) (by kernel_rfl) (
 TOk.cons (by kernel_rfl) (by decide) (by kernel_rfl) (by kernel_rfl) (
 TOk.cons (by kernel_rfl) (by decide) (by kernel_rfl) (by kernel_rfl) (
 TOk.cons (by kernel_rfl) (by decide) (by kernel_rfl) (by kernel_rfl) (
 TOk.cons (by kernel_rfl) (by decide) (by kernel_rfl) (by kernel_rfl) (
 TOk.cons (by kernel_rfl) (by decide) (by kernel_rfl) (by kernel_rfl) (
 TOk.cons (by kernel_rfl) (by decide) (by kernel_rfl) (by kernel_rfl) (
 TOk.cons (by kernel_rfl) (by decide) (by kernel_rfl) (by kernel_rfl) (
 TOk.cons (by kernel_rfl) (by decide) (by kernel_rfl) (by kernel_rfl) (
 TOk.cons (by kernel_rfl) (by decide) (by kernel_rfl) (by kernel_rfl) (
 TOk.cons (by kernel_rfl) (by decide) (by kernel_rfl) (by kernel_rfl) (
 TOk.cons (by kernel_rfl) (by decide) (by kernel_rfl) (by kernel_rfl) (
 TOk.cons (by kernel_rfl) (by decide) (by kernel_rfl) (by kernel_rfl) (
 TOk.cons (by kernel_rfl) (by decide) (by kernel_rfl) (by kernel_rfl) (
 TOk.cons (by kernel_rfl) (by decide) (by kernel_rfl) (by kernel_rfl) (
 TOk.cons (by kernel_rfl) (by decide) (by kernel_rfl) (by kernel_rfl) (
 TOk.cons (by kernel_rfl) (by decide) (by kernel_rfl) (by kernel_rfl) (
 TOk.cons (by kernel_rfl) (by decide) (by kernel_rfl) (by kernel_rfl) (
 TOk.cons (by kernel_rfl) (by decide) (by kernel_rfl) (by kernel_rfl) (
 TOk.cons (by kernel_rfl) (by decide) (by kernel_rfl) (by kernel_rfl) (
 TOk.cons (by kernel_rfl) (by decide) (by kernel_rfl) (by kernel_rfl) (
 TOk.cons (by kernel_rfl) (by decide) (by kernel_rfl) (by kernel_rfl) (
 TOk.cons (by kernel_rfl) (by decide) (by kernel_rfl) (by kernel_rfl) (
 TOk.cons (by kernel_rfl) (by decide) (by kernel_rfl) (by kernel_rfl) (
 TOk.cons (by kernel_rfl) (by decide) (by kernel_rfl) (by kernel_rfl) (
 TOk.cons (by kernel_rfl) (by decide) (by kernel_rfl) (by kernel_rfl) (
 TOk.cons (by kernel_rfl) (by decide) (by kernel_rfl) (by kernel_rfl) (
 TOk.cons (by kernel_rfl) (by decide) (by kernel_rfl) (by kernel_rfl) (
 TOk.cons (by kernel_rfl) (by decide) (by kernel_rfl) (by kernel_rfl) (
 TOk.cons (by kernel_rfl) (by decide) (by kernel_rfl) (by kernel_rfl) (
 TOk.cons (by kernel_rfl) (by decide) (by kernel_rfl) (by kernel_rfl) (
 TOk.cons (by kernel_rfl) (by decide) (by kernel_rfl) (by kernel_rfl) (
 TOk.nil))))))))))))))))))))))))))))))))))))))))))))))))))))))))))))))))))))))))))))))))))))))))))))))))))))))))))))))))))))))))))))))))))))))))))))))))))))))))))))))
theorem mixed : Try.prog.follows .mixedOrders = true := by kernel_rfl
end Go.Proofs.Ytpbbnoggkbfkoaa
