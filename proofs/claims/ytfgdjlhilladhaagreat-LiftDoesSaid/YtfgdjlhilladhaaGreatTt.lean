/- The types of this translation, as the evaluator wants them. -/
import Derived.Test.YtfgdjlhilladhaaGreatEvR
import Derived.Test.YtfgdjlhilladhaaGreatChecked
noncomputable section
set_option linter.unusedSectionVars false
set_option linter.unusedVariables false
set_option linter.unusedSimpArgs false
namespace Go.Proofs.YtfgdjlhilladhaaGreat
open Go Go.Ev Go.Proofs
abbrev z0:Int:=0
abbrev z1:Int:=1
abbrev tN (i:Int):Nat:=Int.toNat i
abbrev gI (l:List Int) (i:Int):Int:=List.getD l i.toNat (0:Int)
abbrev gT {α:Type} (l:List α) (i:Int) (d:α):α:=List.getD l i.toNat d
abbrev nL {α:Type} (l:List α):Int:=((List.length l:Nat):Int)
abbrev _root_.Go.Ev.Tr.oI1 {τ α:Type} {i:Bool} (j:Int) (l:List α) (t:Tr τ i):Tr τ true:= .oR j ((List.length l:Nat):Int) (.od (Int.toNat j<List.length l) t)
abbrev _root_.Go.Ev.Tr.gu {τ α:Type} {i:Bool} (j:Int) (l:List α) (t:Tr τ i):Tr τ true:= .oR j ((List.length l:Nat):Int) (.od (Int.toNat j<List.length l) (.od (Int.toNat j<List.length l) t))
abbrev _root_.Go.Ev.Tr.Dx {τ α:Type} {i:Bool} (j:Int) (l:List α) (t:Tr τ i):Tr τ true:= .oR j ((List.length l:Nat):Int) (.od (Int.toNat j<List.length l) (.od (Int.toNat j<List.length l) (.od (Int.toNat j<List.length l) t)))
abbrev w1 (i:Int):Int:=aj (i+(1:Int))
abbrev wm (i:Int):Int:=aj (i- (1:Int))
abbrev zI:Value:=Value.int IntKind.i64 0
def tt:List (Nat×TI):=
 [(1,⟨(TypeDesc.func #[] #[] Bool.false),1,8,Value.nilFunc,none⟩),
 (2,⟨(TypeDesc.int IntKind.i64),1,8,zI,some yi⟩),
 (3,⟨(TypeDesc.int IntKind.i64),1,8,zI,some yi⟩),
 (4,⟨TypeDesc.bool,1,1,(Value.bool Bool.false),some .bool⟩),
 (5,⟨(TypeDesc.int IntKind.u8),1,1,(Value.int IntKind.u8 (0:Int)),some (.int .u8)⟩),
 (6,⟨(TypeDesc.int IntKind.u8),1,1,(Value.int IntKind.u8 (0:Int)),some (.int .u8)⟩),
 (7,⟨(TypeDesc.struct #[(Field.mk "x" 2 0 Bool.false "" "runtime" 0),(Field.mk "y" 3 1 Bool.false "" "runtime" 8),(Field.mk "signed" 4 2 Bool.false "" "runtime" 16),(Field.mk "code" 6 3 Bool.false "" "runtime" 17)]),4,24,(Value.agg #[zI,zI,(Value.bool Bool.false),(Value.int IntKind.u8 (0:Int))]),some (.prod yi (.prod yi (.prod .bool (.int .u8))))⟩),
 (8,⟨(TypeDesc.struct #[(Field.mk "x" 2 0 Bool.false "" "runtime" 0),(Field.mk "y" 3 1 Bool.false "" "runtime" 8),(Field.mk "signed" 4 2 Bool.false "" "runtime" 16),(Field.mk "code" 6 3 Bool.false "" "runtime" 17)]),4,24,(Value.agg #[zI,zI,(Value.bool Bool.false),(Value.int IntKind.u8 (0:Int))]),some (.prod yi (.prod yi (.prod .bool (.int .u8))))⟩),
 (9,⟨TypeDesc.string,1,16,(Value.string (ByteArray.mk #[])),some .str⟩),
 (10,⟨TypeDesc.string,1,16,(Value.string (ByteArray.mk #[])),some .str⟩),
 (11,⟨TypeDesc.string,1,16,(Value.string (ByteArray.mk #[])),some .str⟩),
 (12,⟨(TypeDesc.int IntKind.u64),1,8,(Value.int IntKind.u64 (0:Int)),some (.int .u64)⟩),
 (15,⟨(TypeDesc.pointer 229),1,8,(Value.pointer Option.none),none⟩),
 (16,⟨(TypeDesc.pointer 232),1,8,(Value.pointer Option.none),none⟩),
 (17,⟨(TypeDesc.pointer 241),1,8,(Value.pointer Option.none),none⟩),
 (21,⟨(TypeDesc.int IntKind.i32),1,4,(Value.int IntKind.i32 (0:Int)),some (.int .i32)⟩),
 (22,⟨(TypeDesc.struct #[(Field.mk "X" 3 0 false "" "" 0),(Field.mk "Y" 3 1 false "" "" 8)]),2,16,(Value.agg #[zI,zI]),some aQ⟩),
 (23,⟨(TypeDesc.struct #[(Field.mk "X" 3 0 false "" "" 0),(Field.mk "Y" 3 1 false "" "" 8)]),2,16,(Value.agg #[zI,zI]),some aQ⟩),
 (24,⟨(TypeDesc.array 3 23),6,48,(Value.agg #[zI,zI,zI,zI,zI,zI]),some (.prod aQ (.prod aQ aQ))⟩),
 (25,⟨(TypeDesc.struct #[(Field.mk "X" 3 0 false "" "" 0),(Field.mk "Y" 3 1 false "" "" 8),(Field.mk "Z" 3 2 false "" "" 16)]),3,24,(Value.agg #[zI,zI,zI]),some aU⟩),
 (26,⟨(TypeDesc.struct #[(Field.mk "X" 3 0 false "" "" 0),(Field.mk "Y" 3 1 false "" "" 8),(Field.mk "Z" 3 2 false "" "" 16)]),3,24,(Value.agg #[zI,zI,zI]),some aU⟩),
 (27,⟨(TypeDesc.array 3 26),9,72,(Value.agg #[zI,zI,zI,zI,zI,zI,zI,zI,zI]),some fk⟩),
 (28,⟨(TypeDesc.slice 26),1,24,(Value.slice Option.none 0 0),some (.sl aU)⟩),
 (29,⟨(TypeDesc.slice 23),1,24,(Value.slice Option.none 0 0),some (.sl aQ)⟩),
 (30,⟨(TypeDesc.slice 131),1,24,(Value.slice Option.none 0 0),some (.sl fk)⟩),
 (31,⟨(TypeDesc.struct #[(Field.mk "V" 28 0 false "" "" 0),(Field.mk "T" 29 1 false "" "" 24),(Field.mk "N" 28 2 false "" "" 48),(Field.mk "Tris" 30 3 false "" "" 72)]),4,96,(Value.agg #[(Value.slice Option.none 0 0),(Value.slice Option.none 0 0),(Value.slice Option.none 0 0),(Value.slice Option.none 0 0)]),some (.prod (.sl aU) (.prod (.sl aQ) (.prod (.sl aU) (.sl fk))))⟩),
 (32,⟨(TypeDesc.struct #[(Field.mk "V" 28 0 false "" "" 0),(Field.mk "T" 29 1 false "" "" 24),(Field.mk "N" 28 2 false "" "" 48),(Field.mk "Tris" 30 3 false "" "" 72)]),4,96,(Value.agg #[(Value.slice Option.none 0 0),(Value.slice Option.none 0 0),(Value.slice Option.none 0 0),(Value.slice Option.none 0 0)]),some (.prod (.sl aU) (.prod (.sl aQ) (.prod (.sl aU) (.sl fk))))⟩),
 (33,⟨(TypeDesc.slice 65),1,24,(Value.slice Option.none 0 0),some (.sl (.prod (.sl yi) (.prod (.sl (.prod aQ (.prod aQ aQ))) aQ)))⟩),
 (34,⟨(TypeDesc.slice 94),1,24,(Value.slice Option.none 0 0),some (.sl (.prod yi aU))⟩),
 (35,⟨(TypeDesc.struct #[(Field.mk "W" 3 0 false "" "" 0),(Field.mk "H" 3 1 false "" "" 8),(Field.mk "Pad" 3 2 false "" "" 16),(Field.mk "Patches" 33 3 false "" "" 24),(Field.mk "Rects" 34 4 false "" "" 48)]),5,72,(Value.agg #[zI,zI,zI,(Value.slice Option.none 0 0),(Value.slice Option.none 0 0)]),some (.prod yi (.prod yi (.prod yi (.prod (.sl (.prod (.sl yi) (.prod (.sl (.prod aQ (.prod aQ aQ))) aQ))) (.sl (.prod yi aU))))))⟩),
 (36,⟨(TypeDesc.struct #[(Field.mk "W" 3 0 false "" "" 0),(Field.mk "H" 3 1 false "" "" 8),(Field.mk "Pad" 3 2 false "" "" 16),(Field.mk "Patches" 33 3 false "" "" 24),(Field.mk "Rects" 34 4 false "" "" 48)]),5,72,(Value.agg #[zI,zI,zI,(Value.slice Option.none 0 0),(Value.slice Option.none 0 0)]),some (.prod yi (.prod yi (.prod yi (.prod (.sl (.prod (.sl yi) (.prod (.sl (.prod aQ (.prod aQ aQ))) aQ))) (.sl (.prod yi aU))))))⟩),
 (37,⟨(TypeDesc.slice 49),1,24,(Value.slice Option.none 0 0),some (.sl (.prod yi (.prod yi (.prod yi aU))))⟩),
 (38,⟨(TypeDesc.func #[32,36] #[4] Bool.false),1,8,Value.nilFunc,none⟩),
 (39,⟨(TypeDesc.func #[32] #[32] Bool.false),1,8,Value.nilFunc,none⟩),
 (40,⟨(TypeDesc.func #[36] #[36] Bool.false),1,8,Value.nilFunc,none⟩),
 (41,⟨(TypeDesc.int IntKind.i64),1,8,zI,some yi⟩),
 (43,⟨(TypeDesc.func #[3,3] #[23,41] Bool.false),1,8,Value.nilFunc,none⟩),
 (45,⟨(TypeDesc.func #[3,3,24,27] #[26,41] Bool.false),1,8,Value.nilFunc,none⟩),
 (47,⟨(TypeDesc.func #[32,36] #[37,41] Bool.false),1,8,Value.nilFunc,none⟩),
 (48,⟨(TypeDesc.struct #[(Field.mk "X" 3 0 false "" "" 0),(Field.mk "Y" 3 1 false "" "" 8),(Field.mk "Tri" 3 2 false "" "" 16),(Field.mk "At" 26 3 false "" "" 24)]),6,48,(Value.agg #[zI,zI,zI,zI,zI,zI]),some (.prod yi (.prod yi (.prod yi aU)))⟩),
 (49,⟨(TypeDesc.struct #[(Field.mk "X" 3 0 false "" "" 0),(Field.mk "Y" 3 1 false "" "" 8),(Field.mk "Tri" 3 2 false "" "" 16),(Field.mk "At" 26 3 false "" "" 24)]),6,48,(Value.agg #[zI,zI,zI,zI,zI,zI]),some (.prod yi (.prod yi (.prod yi aU)))⟩),
 (51,⟨(TypeDesc.func #[37,3,3] #[49,4] Bool.false),1,8,Value.nilFunc,none⟩),
 (52,⟨(TypeDesc.func #[] #[4] Bool.false),1,8,Value.nilFunc,none⟩),
 (53,⟨(TypeDesc.func #[37,37] #[4] Bool.false),1,8,Value.nilFunc,none⟩),
 (54,⟨(TypeDesc.func #[32,32] #[4] Bool.false),1,8,Value.nilFunc,none⟩),
 (55,⟨(TypeDesc.func #[36,36] #[4] Bool.false),1,8,Value.nilFunc,none⟩),
 (56,⟨(TypeDesc.func #[3,3,24,27,32,36,37] #[4] Bool.false),1,8,Value.nilFunc,none⟩),
 (57,⟨(TypeDesc.slice 24),1,24,(Value.slice Option.none 0 0),some (.sl (.prod aQ (.prod aQ aQ)))⟩),
 (58,⟨(TypeDesc.slice 3),1,24,(Value.slice Option.none 0 0),some (.sl yi)⟩),
 (60,⟨(TypeDesc.func #[36] #[57,58,41] Bool.false),1,8,Value.nilFunc,none⟩),
 (62,⟨(TypeDesc.func #[23] #[3,3,41] Bool.false),1,8,Value.nilFunc,none⟩),
 (63,⟨(TypeDesc.func #[58,3] #[4] Bool.false),1,8,Value.nilFunc,none⟩),
 (64,⟨(TypeDesc.struct #[(Field.mk "Tris" 58 0 false "" "" 0),(Field.mk "UV" 57 1 false "" "" 24),(Field.mk "W" 3 2 false "" "" 48),(Field.mk "H" 3 3 false "" "" 56)]),4,64,(Value.agg #[(Value.slice Option.none 0 0),(Value.slice Option.none 0 0),zI,zI]),some (.prod (.sl yi) (.prod (.sl (.prod aQ (.prod aQ aQ))) aQ))⟩),
 (65,⟨(TypeDesc.struct #[(Field.mk "Tris" 58 0 false "" "" 0),(Field.mk "UV" 57 1 false "" "" 24),(Field.mk "W" 3 2 false "" "" 48),(Field.mk "H" 3 3 false "" "" 56)]),4,64,(Value.agg #[(Value.slice Option.none 0 0),(Value.slice Option.none 0 0),zI,zI]),some (.prod (.sl yi) (.prod (.sl (.prod aQ (.prod aQ aQ))) aQ))⟩),
 (67,⟨(TypeDesc.func #[3,3,57] #[58,41] Bool.true),1,8,Value.nilFunc,none⟩),
 (69,⟨(TypeDesc.func #[36,3] #[24,4] Bool.false),1,8,Value.nilFunc,none⟩),
 (70,⟨(TypeDesc.func #[32,105] #[4] Bool.false),1,8,Value.nilFunc,none⟩),
 (71,⟨(TypeDesc.func #[33] #[4] Bool.false),1,8,Value.nilFunc,none⟩),
 (72,⟨(TypeDesc.func #[34] #[34] Bool.false),1,8,Value.nilFunc,none⟩),
 (73,⟨(TypeDesc.func #[65] #[65] Bool.false),1,8,Value.nilFunc,none⟩),
 (74,⟨(TypeDesc.struct #[(Field.mk "N" 3 0 false "" "" 0),(Field.mk "D" 3 1 false "" "" 8)]),2,16,(Value.agg #[zI,zI]),some aQ⟩),
 (75,⟨(TypeDesc.struct #[(Field.mk "N" 3 0 false "" "" 0),(Field.mk "D" 3 1 false "" "" 8)]),2,16,(Value.agg #[zI,zI]),some aQ⟩),
 (77,⟨(TypeDesc.func #[23,24] #[23,75,41] Bool.false),1,8,Value.nilFunc,none⟩),
 (78,⟨(TypeDesc.func #[23,24,27] #[26,41] Bool.false),1,8,Value.nilFunc,none⟩),
 (80,⟨(TypeDesc.func #[32,36] #[58,4] Bool.false),1,8,Value.nilFunc,none⟩),
 (81,⟨(TypeDesc.func #[32] #[4] Bool.false),1,8,Value.nilFunc,none⟩),
 (82,⟨(TypeDesc.func #[32,3] #[27] Bool.false),1,8,Value.nilFunc,none⟩),
 (83,⟨(TypeDesc.func #[36] #[58] Bool.false),1,8,Value.nilFunc,none⟩),
 (84,⟨(TypeDesc.func #[3,3,57] #[58,41] Bool.false),1,8,Value.nilFunc,none⟩),
 (85,⟨(TypeDesc.func #[49] #[4] Bool.false),1,8,Value.nilFunc,none⟩),
 (86,⟨(TypeDesc.func #[37,85] #[3] Bool.false),1,8,Value.nilFunc,none⟩),
 (87,⟨(TypeDesc.func #[30,30] #[4] Bool.false),1,8,Value.nilFunc,none⟩),
 (88,⟨(TypeDesc.func #[34,34] #[4] Bool.false),1,8,Value.nilFunc,none⟩),
 (89,⟨(TypeDesc.func #[65,65] #[4] Bool.false),1,8,Value.nilFunc,none⟩),
 (90,⟨(TypeDesc.func #[36] #[4] Bool.false),1,8,Value.nilFunc,none⟩),
 (92,⟨(TypeDesc.func #[65,23] #[57,41] Bool.false),1,8,Value.nilFunc,none⟩),
 (93,⟨(TypeDesc.struct #[(Field.mk "X" 3 0 false "" "" 0),(Field.mk "Y" 3 1 false "" "" 8),(Field.mk "W" 3 2 false "" "" 16),(Field.mk "H" 3 3 false "" "" 24)]),4,32,(Value.agg #[zI,zI,zI,zI]),some (.prod yi aU)⟩),
 (94,⟨(TypeDesc.struct #[(Field.mk "X" 3 0 false "" "" 0),(Field.mk "Y" 3 1 false "" "" 8),(Field.mk "W" 3 2 false "" "" 16),(Field.mk "H" 3 3 false "" "" 24)]),4,32,(Value.agg #[zI,zI,zI,zI]),some (.prod yi aU)⟩),
 (95,⟨(TypeDesc.func #[58,3] #[58] Bool.false),1,8,Value.nilFunc,none⟩),
 (96,⟨(TypeDesc.func #[23] #[4] Bool.false),1,8,Value.nilFunc,none⟩),
 (97,⟨(TypeDesc.func #[29,96] #[4] Bool.false),1,8,Value.nilFunc,none⟩),
 (98,⟨(TypeDesc.func #[24] #[4] Bool.false),1,8,Value.nilFunc,none⟩),
 (99,⟨(TypeDesc.func #[148] #[] Bool.false),1,8,Value.nilFunc,none⟩),
 (100,⟨(TypeDesc.func #[148] #[] Bool.false),1,8,Value.nilFunc,none⟩),
 (101,⟨(TypeDesc.func #[24] #[100] Bool.false),1,8,Value.nilFunc,none⟩),
 (103,⟨(TypeDesc.func #[3,3,24] #[4,41] Bool.false),1,8,Value.nilFunc,none⟩),
 (104,⟨(TypeDesc.func #[58,3] #[3] Bool.false),1,8,Value.nilFunc,none⟩),
 (105,⟨(TypeDesc.slice 107),1,24,(Value.slice Option.none 0 0),some (.sl (.prod yi (.prod yi (.sl yi))))⟩),
 (106,⟨(TypeDesc.struct #[(Field.mk "Axis" 3 0 false "" "" 0),(Field.mk "Side" 3 1 false "" "" 8),(Field.mk "Tris" 58 2 false "" "" 16)]),3,40,(Value.agg #[zI,zI,(Value.slice Option.none 0 0)]),some (.prod yi (.prod yi (.sl yi)))⟩),
 (107,⟨(TypeDesc.struct #[(Field.mk "Axis" 3 0 false "" "" 0),(Field.mk "Side" 3 1 false "" "" 8),(Field.mk "Tris" 58 2 false "" "" 16)]),3,40,(Value.agg #[zI,zI,(Value.slice Option.none 0 0)]),some (.prod yi (.prod yi (.sl yi)))⟩),
 (108,⟨(TypeDesc.func #[65] #[4] Bool.false),1,8,Value.nilFunc,none⟩),
 (109,⟨(TypeDesc.func #[58] #[58] Bool.false),1,8,Value.nilFunc,none⟩),
 (111,⟨(TypeDesc.func #[23,24] #[3,41] Bool.false),1,8,Value.nilFunc,none⟩),
 (112,⟨(TypeDesc.struct #[(Field.mk "at" 23 0 Bool.false "" "limewash/near" 0),(Field.mk "end" 3 2 Bool.false "" "limewash/near" 16),(Field.mk "dist" 75 3 Bool.false "" "limewash/near" 24)]),5,40,(Value.agg #[zI,zI,zI,zI,zI]),some (.prod aQ aU)⟩),
 (113,⟨(TypeDesc.struct #[(Field.mk "at" 23 0 Bool.false "" "limewash/near" 0),(Field.mk "end" 3 2 Bool.false "" "limewash/near" 16),(Field.mk "dist" 75 3 Bool.false "" "limewash/near" 24)]),5,40,(Value.agg #[zI,zI,zI,zI,zI]),some (.prod aQ aU)⟩),
 (114,⟨(TypeDesc.func #[23,23,23] #[113] Bool.false),1,8,Value.nilFunc,none⟩),
 (115,⟨(TypeDesc.func #[75,75] #[3] Bool.false),1,8,Value.nilFunc,none⟩),
 (116,⟨(TypeDesc.func #[113] #[] Bool.false),1,8,Value.nilFunc,none⟩),
 (117,⟨(TypeDesc.func #[29] #[4] Bool.true),1,8,Value.nilFunc,none⟩),
 (118,⟨(TypeDesc.func #[28] #[4] Bool.true),1,8,Value.nilFunc,none⟩),
 (119,⟨(TypeDesc.array 3 3),3,24,(Value.agg #[zI,zI,zI]),some aU⟩),
 (121,⟨(TypeDesc.func #[23,24] #[119,3,41] Bool.false),1,8,Value.nilFunc,none⟩),
 (122,⟨(TypeDesc.func #[3,3] #[3] Bool.false),1,8,Value.nilFunc,none⟩),
 (124,⟨(TypeDesc.func #[23,23,23] #[23,3,75,41] Bool.false),1,8,Value.nilFunc,none⟩),
 (125,⟨(TypeDesc.func #[26] #[4] Bool.false),1,8,Value.nilFunc,none⟩),
 (126,⟨(TypeDesc.func #[3] #[4] Bool.false),1,8,Value.nilFunc,none⟩),
 (127,⟨(TypeDesc.func #[58,126] #[4] Bool.false),1,8,Value.nilFunc,none⟩),
 (128,⟨(TypeDesc.func #[28,125] #[4] Bool.false),1,8,Value.nilFunc,none⟩),
 (129,⟨(TypeDesc.struct #[(Field.mk "V" 3 0 false "" "" 0),(Field.mk "T" 3 1 false "" "" 8),(Field.mk "N" 3 2 false "" "" 16)]),3,24,(Value.agg #[zI,zI,zI]),some aU⟩),
 (130,⟨(TypeDesc.struct #[(Field.mk "V" 3 0 false "" "" 0),(Field.mk "T" 3 1 false "" "" 8),(Field.mk "N" 3 2 false "" "" 16)]),3,24,(Value.agg #[zI,zI,zI]),some aU⟩),
 (131,⟨(TypeDesc.array 3 130),9,72,(Value.agg #[zI,zI,zI,zI,zI,zI,zI,zI,zI]),some fk⟩),
 (132,⟨(TypeDesc.func #[3,3,24] #[4] Bool.false),1,8,Value.nilFunc,none⟩),
 (133,⟨(TypeDesc.func #[58,58] #[4] Bool.false),1,8,Value.nilFunc,none⟩),
 (134,⟨(TypeDesc.func #[57,57] #[4] Bool.false),1,8,Value.nilFunc,none⟩),
 (135,⟨(TypeDesc.func #[3,3,3] #[4] Bool.false),1,8,Value.nilFunc,none⟩),
 (136,⟨(TypeDesc.slice 65),1,24,(Value.slice Option.none 0 0),some (.sl (.prod (.sl yi) (.prod (.sl (.prod aQ (.prod aQ aQ))) aQ)))⟩),
 (137,⟨(TypeDesc.struct #[(Field.mk "Patch" 65 0 Bool.true "" "" 0),(Field.mk "pad" 3 4 Bool.false "" "limewash/atlas" 64)]),5,72,(Value.agg #[(Value.slice Option.none 0 0),(Value.slice Option.none 0 0),zI,zI,zI]),some (.prod (.prod (.sl yi) (.prod (.sl (.prod aQ (.prod aQ aQ))) aQ)) yi)⟩),
 (138,⟨(TypeDesc.struct #[(Field.mk "Patch" 65 0 Bool.true "" "" 0),(Field.mk "pad" 3 4 Bool.false "" "limewash/atlas" 64)]),5,72,(Value.agg #[(Value.slice Option.none 0 0),(Value.slice Option.none 0 0),zI,zI,zI]),some (.prod (.prod (.sl yi) (.prod (.sl (.prod aQ (.prod aQ aQ))) aQ)) yi)⟩),
 (139,⟨(TypeDesc.func #[] #[23] Bool.false),1,8,Value.nilFunc,none⟩),
 (140,⟨(TypeDesc.func #[3,3,34] #[4] Bool.true),1,8,Value.nilFunc,none⟩),
 (141,⟨(TypeDesc.func #[57,142] #[57] Bool.false),1,8,Value.nilFunc,none⟩),
 (142,⟨(TypeDesc.func #[23] #[23] Bool.false),1,8,Value.nilFunc,none⟩),
 (143,⟨(TypeDesc.int IntKind.u64),1,8,(Value.int IntKind.u64 (0:Int)),some (.int .u64)⟩),
 (145,⟨(TypeDesc.func #[143,143] #[143,143] Bool.false),1,8,Value.nilFunc,none⟩),
 (146,⟨(TypeDesc.func #[29,96] #[3] Bool.false),1,8,Value.nilFunc,none⟩),
 (147,⟨(TypeDesc.func #[23,23,23] #[3,41] Bool.false),1,8,Value.nilFunc,none⟩),
 (148,⟨(TypeDesc.func #[3,3] #[4] Bool.false),1,8,Value.nilFunc,none⟩),
 (149,⟨(TypeDesc.func #[23,3,24] #[4,41] Bool.false),1,8,Value.nilFunc,none⟩),
 (150,⟨(TypeDesc.func #[192] #[] Bool.false),1,8,Value.nilFunc,none⟩),
 (151,⟨(TypeDesc.func #[192] #[] Bool.false),1,8,Value.nilFunc,none⟩),
 (152,⟨(TypeDesc.func #[24] #[151] Bool.false),1,8,Value.nilFunc,none⟩),
 (153,⟨(TypeDesc.func #[23] #[3] Bool.false),1,8,Value.nilFunc,none⟩),
 (154,⟨(TypeDesc.func #[23,23] #[23] Bool.false),1,8,Value.nilFunc,none⟩),
 (155,⟨(TypeDesc.func #[23,23] #[3] Bool.false),1,8,Value.nilFunc,none⟩),
 (156,⟨(TypeDesc.func #[23,23,3] #[113] Bool.false),1,8,Value.nilFunc,none⟩),
 (157,⟨(TypeDesc.struct #[(Field.mk "N" 3 0 false "" "" 0),(Field.mk "D" 3 1 false "" "" 8)]),2,16,(Value.agg #[zI,zI]),some aQ⟩),
 (158,⟨(TypeDesc.func #[157] #[3] Bool.false),1,8,Value.nilFunc,none⟩),
 (159,⟨(TypeDesc.func #[3,58] #[4] Bool.true),1,8,Value.nilFunc,none⟩),
 (160,⟨(TypeDesc.func #[3,3] #[3,3,41] Bool.false),1,8,Value.nilFunc,none⟩),
 (161,⟨(TypeDesc.func #[24,3,23] #[3] Bool.false),1,8,Value.nilFunc,none⟩),
 (162,⟨(TypeDesc.func #[75] #[4] Bool.false),1,8,Value.nilFunc,none⟩),
 (163,⟨(TypeDesc.struct #[(Field.mk "Below" 4 0 false "" "" 0),(Field.mk "D" 58 1 false "" "" 8)]),2,32,(Value.agg #[(Value.bool Bool.false),(Value.slice Option.none 0 0)]),some (.prod .bool (.sl yi))⟩),
 (164,⟨(TypeDesc.struct #[(Field.mk "Below" 4 0 false "" "" 0),(Field.mk "D" 58 1 false "" "" 8)]),2,32,(Value.agg #[(Value.bool Bool.false),(Value.slice Option.none 0 0)]),some (.prod .bool (.sl yi))⟩),
 (165,⟨(TypeDesc.func #[164,164] #[164] Bool.false),1,8,Value.nilFunc,none⟩),
 (166,⟨(TypeDesc.func #[3] #[164] Bool.false),1,8,Value.nilFunc,none⟩),
 (167,⟨(TypeDesc.func #[164,164] #[4] Bool.false),1,8,Value.nilFunc,none⟩),
 (168,⟨(TypeDesc.func #[58,126] #[3] Bool.false),1,8,Value.nilFunc,none⟩),
 (169,⟨(TypeDesc.func #[3,3,4] #[4] Bool.false),1,8,Value.nilFunc,none⟩),
 (170,⟨(TypeDesc.func #[28,125] #[3] Bool.false),1,8,Value.nilFunc,none⟩),
 (171,⟨(TypeDesc.func #[3,3,34] #[4] Bool.false),1,8,Value.nilFunc,none⟩),
 (172,⟨(TypeDesc.map 3 4),1,8,(Value.map Option.none),none⟩),
 (173,⟨(TypeDesc.func #[34,175] #[4] Bool.false),1,8,Value.nilFunc,none⟩),
 (174,⟨(TypeDesc.func #[94,94] #[4] Bool.false),1,8,Value.nilFunc,none⟩),
 (175,⟨(TypeDesc.func #[94] #[4] Bool.false),1,8,Value.nilFunc,none⟩),
 (176,⟨(TypeDesc.func #[57,98] #[4] Bool.false),1,8,Value.nilFunc,none⟩),
 (178,⟨(TypeDesc.func #[57] #[23,23,41] Bool.true),1,8,Value.nilFunc,none⟩),
 (180,⟨(TypeDesc.func #[23] #[3,3] Bool.false),1,8,Value.nilFunc,none⟩),
 (181,⟨(TypeDesc.func #[57] #[4] Bool.false),1,8,Value.nilFunc,none⟩),
 (182,⟨(TypeDesc.func #[57] #[57] Bool.false),1,8,Value.nilFunc,none⟩),
 (183,⟨(TypeDesc.int IntKind.u32),1,4,(Value.int IntKind.u32 (0:Int)),some (.int .u32)⟩),
 (185,⟨(TypeDesc.func #[183,183] #[183,183] Bool.false),1,8,Value.nilFunc,none⟩),
 (186,⟨(TypeDesc.int IntKind.u64),1,8,(Value.int IntKind.u64 (0:Int)),some (.int .u64)⟩),
 (188,⟨(TypeDesc.func #[186,186] #[186,186] Bool.false),1,8,Value.nilFunc,none⟩),
 (189,⟨(TypeDesc.array 3 23),6,48,(Value.agg #[zI,zI,zI,zI,zI,zI]),some (.prod aQ (.prod aQ aQ))⟩),
 (190,⟨(TypeDesc.func #[] #[3,41] Bool.false),1,8,Value.nilFunc,none⟩),
 (191,⟨(TypeDesc.func #[24,3,29] #[4] Bool.true),1,8,Value.nilFunc,none⟩),
 (192,⟨(TypeDesc.func #[153] #[4] Bool.false),1,8,Value.nilFunc,none⟩),
 (193,⟨(TypeDesc.struct #[(Field.mk "Hi" 3 0 false "" "" 0),(Field.mk "Lo" 3 1 false "" "" 8)]),2,16,(Value.agg #[zI,zI]),some aQ⟩),
 (194,⟨(TypeDesc.struct #[(Field.mk "Hi" 3 0 false "" "" 0),(Field.mk "Lo" 3 1 false "" "" 8)]),2,16,(Value.agg #[zI,zI]),some aQ⟩),
 (196,⟨(TypeDesc.func #[3,3] #[194,41] Bool.false),1,8,Value.nilFunc,none⟩),
 (197,⟨(TypeDesc.func #[194,194] #[3] Bool.false),1,8,Value.nilFunc,none⟩),
 (198,⟨(TypeDesc.func #[58] #[3] Bool.true),1,8,Value.nilFunc,none⟩),
 (199,⟨(TypeDesc.func #[3,3] #[41] Bool.false),1,8,Value.nilFunc,none⟩),
 (200,⟨(TypeDesc.func #[23,23] #[3,41] Bool.false),1,8,Value.nilFunc,none⟩),
 (201,⟨(TypeDesc.func #[4,58] #[164] Bool.false),1,8,Value.nilFunc,none⟩),
 (202,⟨(TypeDesc.func #[164] #[164] Bool.false),1,8,Value.nilFunc,none⟩),
 (203,⟨(TypeDesc.func #[58] #[4] Bool.true),1,8,Value.nilFunc,none⟩),
 (204,⟨(TypeDesc.func #[28] #[4] Bool.false),1,8,Value.nilFunc,none⟩),
 (205,⟨(TypeDesc.func #[29] #[4] Bool.false),1,8,Value.nilFunc,none⟩),
 (206,⟨(TypeDesc.func #[3,3,94] #[4] Bool.false),1,8,Value.nilFunc,none⟩),
 (207,⟨(TypeDesc.func #[57] #[23,23,41] Bool.false),1,8,Value.nilFunc,none⟩),
 (208,⟨(TypeDesc.func #[3] #[3,41] Bool.false),1,8,Value.nilFunc,none⟩),
 (209,⟨(TypeDesc.func #[24,29,4] #[4] Bool.false),1,8,Value.nilFunc,none⟩),
 (210,⟨(TypeDesc.func #[34,175] #[3] Bool.false),1,8,Value.nilFunc,none⟩),
 (211,⟨(TypeDesc.func #[3,3,3,3] #[4] Bool.false),1,8,Value.nilFunc,none⟩),
 (212,⟨(TypeDesc.func #[57,98] #[3] Bool.false),1,8,Value.nilFunc,none⟩),
 (213,⟨(TypeDesc.func #[96] #[] Bool.false),1,8,Value.nilFunc,none⟩),
 (214,⟨(TypeDesc.func #[96] #[] Bool.false),1,8,Value.nilFunc,none⟩),
 (215,⟨(TypeDesc.func #[57] #[214] Bool.false),1,8,Value.nilFunc,none⟩),
 (216,⟨(TypeDesc.func #[24,24] #[4,41] Bool.false),1,8,Value.nilFunc,none⟩),
 (217,⟨(TypeDesc.array 2 3),2,16,(Value.agg #[zI,zI]),some aQ⟩),
 (218,⟨(TypeDesc.func #[3] #[217] Bool.false),1,8,Value.nilFunc,none⟩),
 (219,⟨(TypeDesc.func #[194] #[194,41] Bool.false),1,8,Value.nilFunc,none⟩),
 (220,⟨(TypeDesc.func #[3] #[3] Bool.false),1,8,Value.nilFunc,none⟩),
 (221,⟨(TypeDesc.func #[164,164] #[58] Bool.false),1,8,Value.nilFunc,none⟩),
 (222,⟨(TypeDesc.func #[164,164] #[3] Bool.false),1,8,Value.nilFunc,none⟩),
 (223,⟨(TypeDesc.func #[24,3,29] #[3] Bool.false),1,8,Value.nilFunc,none⟩),
 (224,⟨(TypeDesc.func #[24,24,3] #[4,41] Bool.false),1,8,Value.nilFunc,none⟩),
 (225,⟨(TypeDesc.func #[194] #[4] Bool.false),1,8,Value.nilFunc,none⟩),
 (226,⟨(TypeDesc.func #[164,3] #[3] Bool.false),1,8,Value.nilFunc,none⟩),
 (227,⟨(TypeDesc.func #[] #[9] Bool.false),1,8,Value.nilFunc,none⟩),
 (233,⟨(TypeDesc.func #[] #[3] Bool.false),1,8,Value.nilFunc,none⟩),
 (234,⟨(TypeDesc.int IntKind.u8),1,1,(Value.int IntKind.u8 (0:Int)),some (.int .u8)⟩),
 (235,⟨(TypeDesc.int IntKind.u8),1,1,(Value.int IntKind.u8 (0:Int)),some (.int .u8)⟩),
 (236,⟨(TypeDesc.func #[244,244] #[4] Bool.false),1,8,Value.nilFunc,none⟩),
 (237,⟨(TypeDesc.pointer 5),1,8,(Value.pointer Option.none),none⟩),
 (238,⟨(TypeDesc.int IntKind.i32),1,4,(Value.int IntKind.i32 (0:Int)),some (.int .i32)⟩),
 (239,⟨(TypeDesc.int IntKind.i32),1,4,(Value.int IntKind.i32 (0:Int)),some (.int .i32)⟩),
 (242,⟨(TypeDesc.func #[] #[23,3,75] Bool.false),1,8,Value.nilFunc,none⟩),
 (243,⟨(TypeDesc.func #[] #[65] Bool.false),1,8,Value.nilFunc,none⟩),
 (244,⟨TypeDesc.unsafePointer,1,8,(Value.pointer Option.none),none⟩)]
set_option maxRecDepth 100000 in
theorem ax:aW Tryz.prog tt:=
 aW.cons (by kernel_rfl) (by decide) (by kernel_rfl) (by kernel_rfl) (
 aW.cons (by kernel_rfl) (by decide) (by kernel_rfl) (by kernel_rfl) (
 aW.cons (by kernel_rfl) (by decide) (by kernel_rfl) (by kernel_rfl) (
 aW.cons (by kernel_rfl) (by decide) (by kernel_rfl) (by kernel_rfl) (
 aW.cons (by kernel_rfl) (by decide) (by kernel_rfl) (by kernel_rfl) (
 aW.cons (by kernel_rfl) (by decide) (by kernel_rfl) (by kernel_rfl) (
 aW.cons (by kernel_rfl) (by decide) (by kernel_rfl) (by kernel_rfl) (
 aW.cons (by kernel_rfl) (by decide) (by kernel_rfl) (by kernel_rfl) (
 aW.cons (by kernel_rfl) (by decide) (by kernel_rfl) (by kernel_rfl) (
 aW.cons (by kernel_rfl) (by decide) (by kernel_rfl) (by kernel_rfl) (
 aW.cons (by kernel_rfl) (by decide) (by kernel_rfl) (by kernel_rfl) (
 aW.cons (by kernel_rfl) (by decide) (by kernel_rfl) (by kernel_rfl) (
 aW.cons (by kernel_rfl) (by decide) (by kernel_rfl) (by kernel_rfl) (
 aW.cons (by kernel_rfl) (by decide) (by kernel_rfl) (by kernel_rfl) (
 aW.cons (by kernel_rfl) (by decide) (by kernel_rfl) (by kernel_rfl) (
 aW.cons (by kernel_rfl) (by decide) (by kernel_rfl) (by kernel_rfl) (
 aW.cons (by kernel_rfl) (by decide) (by kernel_rfl) (by kernel_rfl) (
 aW.cons (by kernel_rfl) (by decide) (by kernel_rfl) (by kernel_rfl) (
 aW.cons (by kernel_rfl) (by decide) (by kernel_rfl) (by kernel_rfl) (
 aW.cons (by kernel_rfl) (by decide) (by kernel_rfl) (by kernel_rfl) (
 aW.cons (by kernel_rfl) (by decide) (by kernel_rfl) (by kernel_rfl) (
 aW.cons (by kernel_rfl) (by decide) (by kernel_rfl) (by kernel_rfl) (
 aW.cons (by kernel_rfl) (by decide) (by kernel_rfl) (by kernel_rfl) (
 aW.cons (by kernel_rfl) (by decide) (by kernel_rfl) (by kernel_rfl) (
 aW.cons (by kernel_rfl) (by decide) (by kernel_rfl) (by kernel_rfl) (
 aW.cons (by kernel_rfl) (by decide) (by kernel_rfl) (by kernel_rfl) (
 aW.cons (by kernel_rfl) (by decide) (by kernel_rfl) (by kernel_rfl) (
 aW.cons (by kernel_rfl) (by decide) (by kernel_rfl) (by kernel_rfl) (
 aW.cons (by kernel_rfl) (by decide) (by kernel_rfl) (by kernel_rfl) (
 aW.cons (by kernel_rfl) (by decide) (by kernel_rfl) (by kernel_rfl) (
 aW.cons (by kernel_rfl) (by decide) (by kernel_rfl) (by kernel_rfl) (
 aW.cons (by kernel_rfl) (by decide) (by kernel_rfl) (by kernel_rfl) (
 aW.cons (by kernel_rfl) (by decide) (by kernel_rfl) (by kernel_rfl) (
 aW.cons (by kernel_rfl) (by decide) (by kernel_rfl) (by kernel_rfl) (
 aW.cons (by kernel_rfl) (by decide) (by kernel_rfl) (by kernel_rfl) (
 aW.cons (by kernel_rfl) (by decide) (by kernel_rfl) (by kernel_rfl) (
 aW.cons (by kernel_rfl) (by decide) (by kernel_rfl) (by kernel_rfl) (
 aW.cons (by kernel_rfl) (by decide) (by kernel_rfl) (by kernel_rfl) (
 aW.cons (by kernel_rfl) (by decide) (by kernel_rfl) (by kernel_rfl) (
 aW.cons (by kernel_rfl) (by decide) (by kernel_rfl) (by kernel_rfl) (
 aW.cons (by kernel_rfl) (by decide) (by kernel_rfl) (by kernel_rfl) (
 aW.cons (by kernel_rfl) (by decide) (by kernel_rfl) (by kernel_rfl) (
 aW.cons (by kernel_rfl) (by decide) (by kernel_rfl) (by kernel_rfl) (
 aW.cons (by kernel_rfl) (by decide) (by kernel_rfl) (by kernel_rfl) (
 aW.cons (by kernel_rfl) (by decide) (by kernel_rfl) (by kernel_rfl) (
 aW.cons (by kernel_rfl) (by decide) (by kernel_rfl) (by kernel_rfl) (
 aW.cons (by kernel_rfl) (by decide) (by kernel_rfl) (by kernel_rfl) (
 aW.cons (by kernel_rfl) (by decide) (by kernel_rfl) (by kernel_rfl) (
 aW.cons (by kernel_rfl) (by decide) (by kernel_rfl) (by kernel_rfl) (
 aW.cons (by kernel_rfl) (by decide) (by kernel_rfl) (by kernel_rfl) (
 aW.cons (by kernel_rfl) (by decide) (by kernel_rfl) (by kernel_rfl) (
 aW.cons (by kernel_rfl) (by decide) (by kernel_rfl) (by kernel_rfl) (
 aW.cons (by kernel_rfl) (by decide) (by kernel_rfl) (by kernel_rfl) (
 aW.cons (by kernel_rfl) (by decide) (by kernel_rfl) (by kernel_rfl) (
 aW.cons (by kernel_rfl) (by decide) (by kernel_rfl) (by kernel_rfl) (
 aW.cons (by kernel_rfl) (by decide) (by kernel_rfl) (by kernel_rfl) (
 aW.cons (by kernel_rfl) (by decide) (by kernel_rfl) (by kernel_rfl) (
 aW.cons (by kernel_rfl) (by decide) (by kernel_rfl) (by kernel_rfl) (
 aW.cons (by kernel_rfl) (by decide) (by kernel_rfl) (by kernel_rfl) (
 aW.cons (by kernel_rfl) (by decide) (by kernel_rfl) (by kernel_rfl) (
 aW.cons (by kernel_rfl) (by decide) (by kernel_rfl) (by kernel_rfl) (
 aW.cons (by kernel_rfl) (by decide) (by kernel_rfl) (by kernel_rfl) (
 aW.cons (by kernel_rfl) (by decide) (by kernel_rfl) (by kernel_rfl) (
 aW.cons (by kernel_rfl) (by decide) (by kernel_rfl) (by kernel_rfl) (
 aW.cons (by kernel_rfl) (by decide) (by kernel_rfl) (by kernel_rfl) (
 aW.cons (by kernel_rfl) (by decide) (by kernel_rfl) (by kernel_rfl) (
 aW.cons (by kernel_rfl) (by decide) (by kernel_rfl) (by kernel_rfl) (
 aW.cons (by kernel_rfl) (by decide) (by kernel_rfl) (by kernel_rfl) (
 aW.cons (by kernel_rfl) (by decide) (by kernel_rfl) (by kernel_rfl) (
 aW.cons (by kernel_rfl) (by decide) (by kernel_rfl) (by kernel_rfl) (
 aW.cons (by kernel_rfl) (by decide) (by kernel_rfl) (by kernel_rfl) (
 aW.cons (by kernel_rfl) (by decide) (by kernel_rfl) (by kernel_rfl) (
 aW.cons (by kernel_rfl) (by decide) (by kernel_rfl) (by kernel_rfl) (
 aW.cons (by kernel_rfl) (by decide) (by kernel_rfl) (by kernel_rfl) (
 aW.cons (by kernel_rfl) (by decide) (by kernel_rfl) (by kernel_rfl) (
 aW.cons (by kernel_rfl) (by decide) (by kernel_rfl) (by kernel_rfl) (
 aW.cons (by kernel_rfl) (by decide) (by kernel_rfl) (by kernel_rfl) (
 aW.cons (by kernel_rfl) (by decide) (by kernel_rfl) (by kernel_rfl) (
 aW.cons (by kernel_rfl) (by decide) (by kernel_rfl) (by kernel_rfl) (
 aW.cons (by kernel_rfl) (by decide) (by kernel_rfl) (by kernel_rfl) (
 aW.cons (by kernel_rfl) (by decide) (by kernel_rfl) (by kernel_rfl) (
 aW.cons (by kernel_rfl) (by decide) (by kernel_rfl) (by kernel_rfl) (
 aW.cons (by kernel_rfl) (by decide) (by kernel_rfl) (by kernel_rfl) (
 aW.cons (by kernel_rfl) (by decide) (by kernel_rfl) (by kernel_rfl) (
 aW.cons (by kernel_rfl) (by decide) (by kernel_rfl) (by kernel_rfl) (
 aW.cons (by kernel_rfl) (by decide) (by kernel_rfl) (by kernel_rfl) (
 aW.cons (by kernel_rfl) (by decide) (by kernel_rfl) (by kernel_rfl) (
 aW.cons (by kernel_rfl) (by decide) (by kernel_rfl) (by kernel_rfl) (
 aW.cons (by kernel_rfl) (by decide) (by kernel_rfl) (by kernel_rfl) (
 aW.cons (by kernel_rfl) (by decide) (by kernel_rfl) (by kernel_rfl) (
 aW.cons (by kernel_rfl) (by decide) (by kernel_rfl) (by kernel_rfl) (
 aW.cons (by kernel_rfl) (by decide) (by kernel_rfl) (by kernel_rfl) (
 aW.cons (by kernel_rfl) (by decide) (by kernel_rfl) (by kernel_rfl) (
 aW.cons (by kernel_rfl) (by decide) (by kernel_rfl) (by kernel_rfl) (
 aW.cons (by kernel_rfl) (by decide) (by kernel_rfl) (by kernel_rfl) (
 aW.cons (by kernel_rfl) (by decide) (by kernel_rfl) (by kernel_rfl) (
 aW.cons (by kernel_rfl) (by decide) (by kernel_rfl) (by kernel_rfl) (
 aW.cons (by kernel_rfl) (by decide) (by kernel_rfl) (by kernel_rfl) (
 aW.cons (by kernel_rfl) (by decide) (by kernel_rfl) (by kernel_rfl) (
 aW.cons (by kernel_rfl) (by decide) (by kernel_rfl) (by kernel_rfl) (
 aW.cons (by kernel_rfl) (by decide) (by kernel_rfl) (by kernel_rfl) (
 aW.cons (by kernel_rfl) (by decide) (by kernel_rfl) (by kernel_rfl) (
 aW.cons (by kernel_rfl) (by decide) (by kernel_rfl) (by kernel_rfl) (
 aW.cons (by kernel_rfl) (by decide) (by kernel_rfl) (by kernel_rfl) (
 aW.cons (by kernel_rfl) (by decide) (by kernel_rfl) (by kernel_rfl) (
 aW.cons (by kernel_rfl) (by decide) (by kernel_rfl) (by kernel_rfl) (
 aW.cons (by kernel_rfl) (by decide) (by kernel_rfl) (by kernel_rfl) (
 aW.cons (by kernel_rfl) (by decide) (by kernel_rfl) (by kernel_rfl) (
 aW.cons (by kernel_rfl) (by decide) (by kernel_rfl) (by kernel_rfl) (
 aW.cons (by kernel_rfl) (by decide) (by kernel_rfl) (by kernel_rfl) (
 aW.cons (by kernel_rfl) (by decide) (by kernel_rfl) (by kernel_rfl) (
 aW.cons (by kernel_rfl) (by decide) (by kernel_rfl) (by kernel_rfl) (
 aW.cons (by kernel_rfl) (by decide) (by kernel_rfl) (by kernel_rfl) (
 aW.cons (by kernel_rfl) (by decide) (by kernel_rfl) (by kernel_rfl) (
 aW.cons (by kernel_rfl) (by decide) (by kernel_rfl) (by kernel_rfl) (
 aW.cons (by kernel_rfl) (by decide) (by kernel_rfl) (by kernel_rfl) (
 aW.cons (by kernel_rfl) (by decide) (by kernel_rfl) (by kernel_rfl) (
 aW.cons (by kernel_rfl) (by decide) (by kernel_rfl) (by kernel_rfl) (
 aW.cons (by kernel_rfl) (by decide) (by kernel_rfl) (by kernel_rfl) (
 aW.cons (by kernel_rfl) (by decide) (by kernel_rfl) (by kernel_rfl) (
 aW.cons (by kernel_rfl) (by decide) (by kernel_rfl) (by kernel_rfl) (
 aW.cons (by kernel_rfl) (by decide) (by kernel_rfl) (by kernel_rfl) (
 aW.cons (by kernel_rfl) (by decide) (by kernel_rfl) (by kernel_rfl) (
 aW.cons (by kernel_rfl) (by decide) (by kernel_rfl) (by kernel_rfl) (
 aW.cons (by kernel_rfl) (by decide) (by kernel_rfl) (by kernel_rfl) (
 aW.cons (by kernel_rfl) (by decide) (by kernel_rfl) (by kernel_rfl) (
 aW.cons (by kernel_rfl) (by decide) (by kernel_rfl) (by kernel_rfl) (
 aW.cons (by kernel_rfl) (by decide) (by kernel_rfl) (by kernel_rfl) (
 aW.cons (by kernel_rfl) (by decide) (by kernel_rfl) (by kernel_rfl) (
 aW.cons (by kernel_rfl) (by decide) (by kernel_rfl) (by kernel_rfl) (
 aW.cons (by kernel_rfl) (by decide) (by kernel_rfl) (by kernel_rfl) (
 aW.cons (by kernel_rfl) (by decide) (by kernel_rfl) (by kernel_rfl) (
 aW.cons (by kernel_rfl) (by decide) (by kernel_rfl) (by kernel_rfl) (
 aW.cons (by kernel_rfl) (by decide) (by kernel_rfl) (by kernel_rfl) (
 aW.cons (by kernel_rfl) (by decide) (by kernel_rfl) (by kernel_rfl) (
 aW.cons (by kernel_rfl) (by decide) (by kernel_rfl) (by kernel_rfl) (
 aW.cons (by kernel_rfl) (by decide) (by kernel_rfl) (by kernel_rfl) (
 aW.cons (by kernel_rfl) (by decide) (by kernel_rfl) (by kernel_rfl) (
 aW.cons (by kernel_rfl) (by decide) (by kernel_rfl) (by kernel_rfl) (
 aW.cons (by kernel_rfl) (by decide) (by kernel_rfl) (by kernel_rfl) (
 aW.cons (by kernel_rfl) (by decide) (by kernel_rfl) (by kernel_rfl) (
 aW.cons (by kernel_rfl) (by decide) (by kernel_rfl) (by kernel_rfl) (
 aW.cons (by kernel_rfl) (by decide) (by kernel_rfl) (by kernel_rfl) (
 aW.cons (by kernel_rfl) (by decide) (by kernel_rfl) (by kernel_rfl) (
 aW.cons (by kernel_rfl) (by decide) (by kernel_rfl) (by kernel_rfl) (
 aW.cons (by kernel_rfl) (by decide) (by kernel_rfl) (by kernel_rfl) (
 aW.cons (by kernel_rfl) (by decide) (by kernel_rfl) (by kernel_rfl) (
 aW.cons (by kernel_rfl) (by decide) (by kernel_rfl) (by kernel_rfl) (
 aW.cons (by kernel_rfl) (by decide) (by kernel_rfl) (by kernel_rfl) (
 aW.cons (by kernel_rfl) (by decide) (by kernel_rfl) (by kernel_rfl) (
 aW.cons (by kernel_rfl) (by decide) (by kernel_rfl) (by kernel_rfl) (
 aW.cons (by kernel_rfl) (by decide) (by kernel_rfl) (by kernel_rfl) (
 aW.cons (by kernel_rfl) (by decide) (by kernel_rfl) (by kernel_rfl) (
 aW.cons (by kernel_rfl) (by decide) (by kernel_rfl) (by kernel_rfl) (
 aW.cons (by kernel_rfl) (by decide) (by kernel_rfl) (by kernel_rfl) (
 aW.cons (by kernel_rfl) (by decide) (by kernel_rfl) (by kernel_rfl) (
 aW.cons (by kernel_rfl) (by decide) (by kernel_rfl) (by kernel_rfl) (
 aW.cons (by kernel_rfl) (by decide) (by kernel_rfl) (by kernel_rfl) (
 aW.cons (by kernel_rfl) (by decide) (by kernel_rfl) (by kernel_rfl) (
 aW.cons (by kernel_rfl) (by decide) (by kernel_rfl) (by kernel_rfl) (
 aW.cons (by kernel_rfl) (by decide) (by kernel_rfl) (by kernel_rfl) (
 aW.cons (by kernel_rfl) (by decide) (by kernel_rfl) (by kernel_rfl) (
 aW.cons (by kernel_rfl) (by decide) (by kernel_rfl) (by kernel_rfl) (
 aW.cons (by kernel_rfl) (by decide) (by kernel_rfl) (by kernel_rfl) (
 aW.cons (by kernel_rfl) (by decide) (by kernel_rfl) (by kernel_rfl) (
 aW.cons (by kernel_rfl) (by decide) (by kernel_rfl) (by kernel_rfl) (
 aW.cons (by kernel_rfl) (by decide) (by kernel_rfl) (by kernel_rfl) (
 aW.cons (by kernel_rfl) (by decide) (by kernel_rfl) (by kernel_rfl) (
 aW.cons (by kernel_rfl) (by decide) (by kernel_rfl) (by kernel_rfl) (
 aW.cons (by kernel_rfl) (by decide) (by kernel_rfl) (by kernel_rfl) (
 aW.cons (by kernel_rfl) (by decide) (by kernel_rfl) (by kernel_rfl) (
 aW.cons (by kernel_rfl) (by decide) (by kernel_rfl) (by kernel_rfl) (
 aW.cons (by kernel_rfl) (by decide) (by kernel_rfl) (by kernel_rfl) (
 aW.cons (by kernel_rfl) (by decide) (by kernel_rfl) (by kernel_rfl) (
 aW.cons (by kernel_rfl) (by decide) (by kernel_rfl) (by kernel_rfl) (
 aW.cons (by kernel_rfl) (by decide) (by kernel_rfl) (by kernel_rfl) (
 aW.cons (by kernel_rfl) (by decide) (by kernel_rfl) (by kernel_rfl) (
 aW.cons (by kernel_rfl) (by decide) (by kernel_rfl) (by kernel_rfl) (
 aW.cons (by kernel_rfl) (by decide) (by kernel_rfl) (by kernel_rfl) (
 aW.cons (by kernel_rfl) (by decide) (by kernel_rfl) (by kernel_rfl) (
 aW.cons (by kernel_rfl) (by decide) (by kernel_rfl) (by kernel_rfl) (
 aW.cons (by kernel_rfl) (by decide) (by kernel_rfl) (by kernel_rfl) (
 aW.cons (by kernel_rfl) (by decide) (by kernel_rfl) (by kernel_rfl) (
 aW.cons (by kernel_rfl) (by decide) (by kernel_rfl) (by kernel_rfl) (
 aW.cons (by kernel_rfl) (by decide) (by kernel_rfl) (by kernel_rfl) (
 aW.cons (by kernel_rfl) (by decide) (by kernel_rfl) (by kernel_rfl) (
 aW.cons (by kernel_rfl) (by decide) (by kernel_rfl) (by kernel_rfl) (
 aW.cons (by kernel_rfl) (by decide) (by kernel_rfl) (by kernel_rfl) (
 aW.cons (by kernel_rfl) (by decide) (by kernel_rfl) (by kernel_rfl) (
 aW.cons (by kernel_rfl) (by decide) (by kernel_rfl) (by kernel_rfl) (
 aW.cons (by kernel_rfl) (by decide) (by kernel_rfl) (by kernel_rfl) (
 aW.cons (by kernel_rfl) (by decide) (by kernel_rfl) (by kernel_rfl) (
 aW.cons (by kernel_rfl) (by decide) (by kernel_rfl) (by kernel_rfl) (
 aW.cons (by kernel_rfl) (by decide) (by kernel_rfl) (by kernel_rfl) (
 aW.cons (by kernel_rfl) (by decide) (by kernel_rfl) (by kernel_rfl) (
 aW.cons (by kernel_rfl) (by decide) (by kernel_rfl) (by kernel_rfl) (
 aW.cons (by kernel_rfl) (by decide) (by kernel_rfl) (by kernel_rfl) (
 aW.cons (by kernel_rfl) (by decide) (by kernel_rfl) (by kernel_rfl) (
 aW.cons (by kernel_rfl) (by decide) (by kernel_rfl) (by kernel_rfl) (
 aW.cons (by kernel_rfl) (by decide) (by kernel_rfl) (by kernel_rfl) (
 aW.cons (by kernel_rfl) (by decide) (by kernel_rfl) (by kernel_rfl) (
 aW.cons (by kernel_rfl) (by decide) (by kernel_rfl) (by kernel_rfl) (
 aW.cons (by kernel_rfl) (by decide) (by kernel_rfl) (by kernel_rfl) (
 aW.cons (by kernel_rfl) (by decide) (by kernel_rfl) (by kernel_rfl) (
 aW.cons (by kernel_rfl) (by decide) (by kernel_rfl) (by kernel_rfl) (
 aW.cons (by kernel_rfl) (by decide) (by kernel_rfl) (by kernel_rfl) (
 aW.cons (by kernel_rfl) (by decide) (by kernel_rfl) (by kernel_rfl) (
 aW.cons (by kernel_rfl) (by decide) (by kernel_rfl) (by kernel_rfl) (
 aW.cons (by kernel_rfl) (by decide) (by kernel_rfl) (by kernel_rfl) (
 aW.cons (by kernel_rfl) (by decide) (by kernel_rfl) (by kernel_rfl) (
 aW.cons (by kernel_rfl) (by decide) (by kernel_rfl) (by kernel_rfl) (
 aW.nil)))))))))))))))))))))))))))))))))))))))))))))))))))))))))))))))))))))))))))))))))))))))))))))))))))))))))))))))))))))))))))))))))))))))))))))))))))))))))))))))))))))))))))))))))))))))))))))))))))))))))))))))))))
theorem mixed:Tryz.prog.follows .mixedOrders=true:=by kernel_rfl
end Go.Proofs.YtfgdjlhilladhaaGreat
