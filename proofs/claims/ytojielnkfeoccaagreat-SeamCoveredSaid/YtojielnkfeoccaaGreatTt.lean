/- The types of this translation, as the evaluator wants them. -/
import Derived.Test.YtojielnkfeoccaaGreatEvR
import Derived.Test.YtojielnkfeoccaaGreatChecked
noncomputable section
set_option linter.unusedSectionVars false
set_option linter.unusedVariables false
set_option linter.unusedSimpArgs false
namespace Go.Proofs.YtojielnkfeoccaaGreat
open Go Go.Ev Go.Proofs
abbrev z0:Int:=0
abbrev z1:Int:=1
abbrev tN (i:Int):Nat:=Int.toNat i
abbrev gI (l:List Int) (i:Int):Int:=List.getD l i.toNat (0:Int)
abbrev gT {α:Type} (l:List α) (i:Int) (d:α):α:=List.getD l i.toNat d
abbrev nL {α:Type} (l:List α):Int:=((List.length l:Nat):Int)
abbrev _root_.Go.Ev.Tr.oI1 {τ α:Type} {i:Bool} (j:Int) (l:List α) (t:Tr τ i):Tr τ true:= .oR j ((List.length l:Nat):Int) (.od (Int.toNat j<List.length l) t)
abbrev _root_.Go.Ev.Tr.lA {τ α:Type} {i:Bool} (j:Int) (l:List α) (t:Tr τ i):Tr τ true:= .oR j ((List.length l:Nat):Int) (.od (Int.toNat j<List.length l) (.od (Int.toNat j<List.length l) t))
abbrev _root_.Go.Ev.Tr.zx {τ α:Type} {i:Bool} (j:Int) (l:List α) (t:Tr τ i):Tr τ true:= .oR j ((List.length l:Nat):Int) (.od (Int.toNat j<List.length l) (.od (Int.toNat j<List.length l) (.od (Int.toNat j<List.length l) t)))
abbrev w1 (i:Int):Int:=aj (i+(1:Int))
abbrev wm (i:Int):Int:=aj (i- (1:Int))
abbrev zI:Value:=Value.int IntKind.i64 0
def tt:List (Nat×TI):=
 [(1,⟨(TypeDesc.func #[] #[] Bool.false),1,8,Value.nilFunc,none⟩),
 (2,⟨(TypeDesc.int IntKind.i64),1,8,zI,some yi⟩),
 (3,⟨(TypeDesc.int IntKind.i64),1,8,zI,some yi⟩),
 (4,⟨TypeDesc.bool,1,1,(Value.bool Bool.false),some .bool⟩),
 (5,⟨(TypeDesc.int IntKind.u8),1,1,(Value.int IntKind.u8 (0:Int)),some (.int .u8)⟩),
 (6,⟨(TypeDesc.int IntKind.u8),1,1,(Value.int IntKind.u8 (0:Int)),some (.int .u8)⟩),
 (7,⟨(TypeDesc.struct #[(Field.mk "x" 2 0 Bool.false "" "runtime" 0),(Field.mk "y" 3 1 Bool.false "" "runtime" 8),(Field.mk "signed" 4 2 Bool.false "" "runtime" 16),(Field.mk "code" 6 3 Bool.false "" "runtime" 17)]),4,24,(Value.agg #[zI,zI,(Value.bool Bool.false),(Value.int IntKind.u8 (0:Int))]),some (.prod yi (.prod yi (.prod .bool (.int .u8))))⟩),
 (8,⟨(TypeDesc.struct #[(Field.mk "x" 2 0 Bool.false "" "runtime" 0),(Field.mk "y" 3 1 Bool.false "" "runtime" 8),(Field.mk "signed" 4 2 Bool.false "" "runtime" 16),(Field.mk "code" 6 3 Bool.false "" "runtime" 17)]),4,24,(Value.agg #[zI,zI,(Value.bool Bool.false),(Value.int IntKind.u8 (0:Int))]),some (.prod yi (.prod yi (.prod .bool (.int .u8))))⟩),
 (9,⟨TypeDesc.string,1,16,(Value.string (ByteArray.mk #[])),some .str⟩),
 (10,⟨TypeDesc.string,1,16,(Value.string (ByteArray.mk #[])),some .str⟩),
 (11,⟨TypeDesc.string,1,16,(Value.string (ByteArray.mk #[])),some .str⟩),
 (12,⟨(TypeDesc.int IntKind.u64),1,8,(Value.int IntKind.u64 (0:Int)),some (.int .u64)⟩),
 (15,⟨(TypeDesc.pointer 208),1,8,(Value.pointer Option.none),none⟩),
 (16,⟨(TypeDesc.pointer 211),1,8,(Value.pointer Option.none),none⟩),
 (17,⟨(TypeDesc.pointer 220),1,8,(Value.pointer Option.none),none⟩),
 (21,⟨(TypeDesc.int IntKind.i32),1,4,(Value.int IntKind.i32 (0:Int)),some (.int .i32)⟩),
 (22,⟨(TypeDesc.slice 3),1,24,(Value.slice Option.none 0 0),some (.sl yi)⟩),
 (23,⟨(TypeDesc.slice 33),1,24,(Value.slice Option.none 0 0),some (.sl (.prod aH aH))⟩),
 (24,⟨(TypeDesc.int IntKind.i64),1,8,zI,some yi⟩),
 (26,⟨(TypeDesc.func #[3,22,23] #[22,24] Bool.true),1,8,Value.nilFunc,none⟩),
 (27,⟨(TypeDesc.func #[] #[4] Bool.false),1,8,Value.nilFunc,none⟩),
 (28,⟨(TypeDesc.func #[22,22] #[4] Bool.false),1,8,Value.nilFunc,none⟩),
 (29,⟨(TypeDesc.func #[3,22,23] #[4] Bool.false),1,8,Value.nilFunc,none⟩),
 (30,⟨(TypeDesc.struct #[(Field.mk "X" 3 0 false "" "" 0),(Field.mk "Y" 3 1 false "" "" 8)]),2,16,(Value.agg #[zI,zI]),some aH⟩),
 (31,⟨(TypeDesc.struct #[(Field.mk "X" 3 0 false "" "" 0),(Field.mk "Y" 3 1 false "" "" 8)]),2,16,(Value.agg #[zI,zI]),some aH⟩),
 (32,⟨(TypeDesc.struct #[(Field.mk "A" 31 0 false "" "" 0),(Field.mk "B" 31 2 false "" "" 16)]),4,32,(Value.agg #[zI,zI,zI,zI]),some (.prod aH aH)⟩),
 (33,⟨(TypeDesc.struct #[(Field.mk "A" 31 0 false "" "" 0),(Field.mk "B" 31 2 false "" "" 16)]),4,32,(Value.agg #[zI,zI,zI,zI]),some (.prod aH aH)⟩),
 (35,⟨(TypeDesc.func #[31,31,3] #[31,24] Bool.false),1,8,Value.nilFunc,none⟩),
 (36,⟨(TypeDesc.func #[31,31,3] #[4] Bool.false),1,8,Value.nilFunc,none⟩),
 (37,⟨(TypeDesc.slice 142),1,24,(Value.slice Option.none 0 0),some (.sl cj)⟩),
 (38,⟨(TypeDesc.slice 31),1,24,(Value.slice Option.none 0 0),some (.sl aH)⟩),
 (39,⟨(TypeDesc.slice 107),1,24,(Value.slice Option.none 0 0),some (.sl kB)⟩),
 (40,⟨(TypeDesc.struct #[(Field.mk "V" 37 0 false "" "" 0),(Field.mk "T" 38 1 false "" "" 24),(Field.mk "N" 37 2 false "" "" 48),(Field.mk "Tris" 39 3 false "" "" 72)]),4,96,(Value.agg #[(Value.slice Option.none 0 0),(Value.slice Option.none 0 0),(Value.slice Option.none 0 0),(Value.slice Option.none 0 0)]),some (.prod (.sl cj) (.prod (.sl aH) (.prod (.sl cj) (.sl kB))))⟩),
 (41,⟨(TypeDesc.struct #[(Field.mk "V" 37 0 false "" "" 0),(Field.mk "T" 38 1 false "" "" 24),(Field.mk "N" 37 2 false "" "" 48),(Field.mk "Tris" 39 3 false "" "" 72)]),4,96,(Value.agg #[(Value.slice Option.none 0 0),(Value.slice Option.none 0 0),(Value.slice Option.none 0 0),(Value.slice Option.none 0 0)]),some (.prod (.sl cj) (.prod (.sl aH) (.prod (.sl cj) (.sl kB))))⟩),
 (42,⟨(TypeDesc.slice 85),1,24,(Value.slice Option.none 0 0),some (.sl (.prod (.sl yi) (.prod (.sl (.prod aH (.prod aH aH))) aH)))⟩),
 (43,⟨(TypeDesc.slice 89),1,24,(Value.slice Option.none 0 0),some (.sl (.prod yi cj))⟩),
 (44,⟨(TypeDesc.struct #[(Field.mk "W" 3 0 false "" "" 0),(Field.mk "H" 3 1 false "" "" 8),(Field.mk "Pad" 3 2 false "" "" 16),(Field.mk "Patches" 42 3 false "" "" 24),(Field.mk "Rects" 43 4 false "" "" 48)]),5,72,(Value.agg #[zI,zI,zI,(Value.slice Option.none 0 0),(Value.slice Option.none 0 0)]),some (.prod yi (.prod yi (.prod yi (.prod (.sl (.prod (.sl yi) (.prod (.sl (.prod aH (.prod aH aH))) aH))) (.sl (.prod yi cj))))))⟩),
 (45,⟨(TypeDesc.struct #[(Field.mk "W" 3 0 false "" "" 0),(Field.mk "H" 3 1 false "" "" 8),(Field.mk "Pad" 3 2 false "" "" 16),(Field.mk "Patches" 42 3 false "" "" 24),(Field.mk "Rects" 43 4 false "" "" 48)]),5,72,(Value.agg #[zI,zI,zI,(Value.slice Option.none 0 0),(Value.slice Option.none 0 0)]),some (.prod yi (.prod yi (.prod yi (.prod (.sl (.prod (.sl yi) (.prod (.sl (.prod aH (.prod aH aH))) aH))) (.sl (.prod yi cj))))))⟩),
 (46,⟨(TypeDesc.func #[41,45] #[4] Bool.false),1,8,Value.nilFunc,none⟩),
 (48,⟨(TypeDesc.func #[41,45] #[23,24] Bool.false),1,8,Value.nilFunc,none⟩),
 (49,⟨(TypeDesc.slice 91),1,24,(Value.slice Option.none 0 0),some (.sl (.prod aH (.prod aH aH)))⟩),
 (51,⟨(TypeDesc.func #[45] #[49,22,24] Bool.false),1,8,Value.nilFunc,none⟩),
 (52,⟨(TypeDesc.func #[3,3,49] #[22,24] Bool.true),1,8,Value.nilFunc,none⟩),
 (53,⟨(TypeDesc.func #[3] #[4] Bool.false),1,8,Value.nilFunc,none⟩),
 (54,⟨(TypeDesc.func #[22,53] #[4] Bool.false),1,8,Value.nilFunc,none⟩),
 (55,⟨(TypeDesc.func #[31] #[4] Bool.false),1,8,Value.nilFunc,none⟩),
 (56,⟨(TypeDesc.slice 57),1,24,(Value.slice Option.none 0 0),some (.sl aH)⟩),
 (57,⟨(TypeDesc.array 2 3),2,16,(Value.agg #[zI,zI]),some aH⟩),
 (58,⟨(TypeDesc.func #[3,3] #[] Bool.false),1,8,Value.nilFunc,none⟩),
 (59,⟨(TypeDesc.func #[22] #[22] Bool.false),1,8,Value.nilFunc,none⟩),
 (61,⟨(TypeDesc.func #[41,45,3,3] #[31,4] Bool.false),1,8,Value.nilFunc,none⟩),
 (62,⟨(TypeDesc.func #[38] #[4] Bool.true),1,8,Value.nilFunc,none⟩),
 (64,⟨(TypeDesc.func #[3,3] #[3,3,24] Bool.false),1,8,Value.nilFunc,none⟩),
 (65,⟨(TypeDesc.func #[41,111] #[4] Bool.false),1,8,Value.nilFunc,none⟩),
 (66,⟨(TypeDesc.func #[42] #[4] Bool.false),1,8,Value.nilFunc,none⟩),
 (67,⟨(TypeDesc.map 3 3),1,8,(Value.map Option.none),none⟩),
 (68,⟨(TypeDesc.map 3 91),1,8,(Value.map Option.none),none⟩),
 (69,⟨(TypeDesc.struct #[(Field.mk "Mesh" 41 0 Bool.true "" "" 0),(Field.mk "of" 67 4 Bool.false "" "limewash/seam" 96),(Field.mk "t" 68 5 Bool.false "" "limewash/seam" 104)]),6,112,(Value.agg #[(Value.slice Option.none 0 0),(Value.slice Option.none 0 0),(Value.slice Option.none 0 0),(Value.slice Option.none 0 0),(Value.map Option.none),(Value.map Option.none)]),none⟩),
 (70,⟨(TypeDesc.struct #[(Field.mk "Mesh" 41 0 Bool.true "" "" 0),(Field.mk "of" 67 4 Bool.false "" "limewash/seam" 96),(Field.mk "t" 68 5 Bool.false "" "limewash/seam" 104)]),6,112,(Value.agg #[(Value.slice Option.none 0 0),(Value.slice Option.none 0 0),(Value.slice Option.none 0 0),(Value.slice Option.none 0 0),(Value.map Option.none),(Value.map Option.none)]),none⟩),
 (72,⟨(TypeDesc.func #[41,45] #[70,4] Bool.false),1,8,Value.nilFunc,none⟩),
 (73,⟨(TypeDesc.slice 78),1,24,(Value.slice Option.none 0 0),some (.sl (.prod yi (.prod yi (.sl yi))))⟩),
 (75,⟨(TypeDesc.func #[41] #[73,24] Bool.false),1,8,Value.nilFunc,none⟩),
 (76,⟨(TypeDesc.map 33 4),1,8,(Value.map Option.none),none⟩),
 (77,⟨(TypeDesc.struct #[(Field.mk "A" 3 0 false "" "" 0),(Field.mk "B" 3 1 false "" "" 8),(Field.mk "Tris" 22 2 false "" "" 16)]),3,40,(Value.agg #[zI,zI,(Value.slice Option.none 0 0)]),some (.prod yi (.prod yi (.sl yi)))⟩),
 (78,⟨(TypeDesc.struct #[(Field.mk "A" 3 0 false "" "" 0),(Field.mk "B" 3 1 false "" "" 8),(Field.mk "Tris" 22 2 false "" "" 16)]),3,40,(Value.agg #[zI,zI,(Value.slice Option.none 0 0)]),some (.prod yi (.prod yi (.sl yi)))⟩),
 (79,⟨(TypeDesc.array 9 31),18,144,(Value.agg #[zI,zI,zI,zI,zI,zI,zI,zI,zI,zI,zI,zI,zI,zI,zI,zI,zI,zI]),some (.prod aH (.prod aH (.prod aH (.prod aH (.prod aH (.prod aH (.prod aH (.prod aH aH))))))))⟩),
 (80,⟨(TypeDesc.func #[3,78] #[79] Bool.false),1,8,Value.nilFunc,none⟩),
 (81,⟨(TypeDesc.func #[3,3,78] #[] Bool.false),1,8,Value.nilFunc,none⟩),
 (82,⟨(TypeDesc.func #[3,3] #[4] Bool.false),1,8,Value.nilFunc,none⟩),
 (83,⟨(TypeDesc.func #[45] #[4] Bool.false),1,8,Value.nilFunc,none⟩),
 (84,⟨(TypeDesc.struct #[(Field.mk "Tris" 22 0 false "" "" 0),(Field.mk "UV" 49 1 false "" "" 24),(Field.mk "W" 3 2 false "" "" 48),(Field.mk "H" 3 3 false "" "" 56)]),4,64,(Value.agg #[(Value.slice Option.none 0 0),(Value.slice Option.none 0 0),zI,zI]),some (.prod (.sl yi) (.prod (.sl (.prod aH (.prod aH aH))) aH))⟩),
 (85,⟨(TypeDesc.struct #[(Field.mk "Tris" 22 0 false "" "" 0),(Field.mk "UV" 49 1 false "" "" 24),(Field.mk "W" 3 2 false "" "" 48),(Field.mk "H" 3 3 false "" "" 56)]),4,64,(Value.agg #[(Value.slice Option.none 0 0),(Value.slice Option.none 0 0),zI,zI]),some (.prod (.sl yi) (.prod (.sl (.prod aH (.prod aH aH))) aH))⟩),
 (87,⟨(TypeDesc.func #[85,31] #[49,24] Bool.false),1,8,Value.nilFunc,none⟩),
 (88,⟨(TypeDesc.struct #[(Field.mk "X" 3 0 false "" "" 0),(Field.mk "Y" 3 1 false "" "" 8),(Field.mk "W" 3 2 false "" "" 16),(Field.mk "H" 3 3 false "" "" 24)]),4,32,(Value.agg #[zI,zI,zI,zI]),some (.prod yi cj)⟩),
 (89,⟨(TypeDesc.struct #[(Field.mk "X" 3 0 false "" "" 0),(Field.mk "Y" 3 1 false "" "" 8),(Field.mk "W" 3 2 false "" "" 16),(Field.mk "H" 3 3 false "" "" 24)]),4,32,(Value.agg #[zI,zI,zI,zI]),some (.prod yi cj)⟩),
 (90,⟨(TypeDesc.func #[22,3] #[22] Bool.false),1,8,Value.nilFunc,none⟩),
 (91,⟨(TypeDesc.array 3 31),6,48,(Value.agg #[zI,zI,zI,zI,zI,zI]),some (.prod aH (.prod aH aH))⟩),
 (92,⟨(TypeDesc.func #[38,55] #[4] Bool.false),1,8,Value.nilFunc,none⟩),
 (93,⟨(TypeDesc.func #[91] #[4] Bool.false),1,8,Value.nilFunc,none⟩),
 (94,⟨(TypeDesc.func #[82] #[] Bool.false),1,8,Value.nilFunc,none⟩),
 (95,⟨(TypeDesc.func #[82] #[] Bool.false),1,8,Value.nilFunc,none⟩),
 (96,⟨(TypeDesc.func #[91] #[95] Bool.false),1,8,Value.nilFunc,none⟩),
 (98,⟨(TypeDesc.func #[3,3,91] #[4,24] Bool.false),1,8,Value.nilFunc,none⟩),
 (99,⟨(TypeDesc.func #[22,53] #[3] Bool.false),1,8,Value.nilFunc,none⟩),
 (100,⟨(TypeDesc.func #[41] #[4] Bool.false),1,8,Value.nilFunc,none⟩),
 (102,⟨(TypeDesc.func #[45,3] #[91,4] Bool.false),1,8,Value.nilFunc,none⟩),
 (103,⟨(TypeDesc.func #[104,108] #[3] Bool.false),1,8,Value.nilFunc,none⟩),
 (104,⟨(TypeDesc.slice 106),1,24,(Value.slice Option.none 0 0),some (.sl cj)⟩),
 (105,⟨(TypeDesc.struct #[(Field.mk "V" 3 0 false "" "" 0),(Field.mk "T" 3 1 false "" "" 8),(Field.mk "N" 3 2 false "" "" 16)]),3,24,(Value.agg #[zI,zI,zI]),some cj⟩),
 (106,⟨(TypeDesc.struct #[(Field.mk "V" 3 0 false "" "" 0),(Field.mk "T" 3 1 false "" "" 8),(Field.mk "N" 3 2 false "" "" 16)]),3,24,(Value.agg #[zI,zI,zI]),some cj⟩),
 (107,⟨(TypeDesc.array 3 106),9,72,(Value.agg #[zI,zI,zI,zI,zI,zI,zI,zI,zI]),some kB⟩),
 (108,⟨(TypeDesc.func #[106] #[4] Bool.false),1,8,Value.nilFunc,none⟩),
 (109,⟨(TypeDesc.func #[3,22] #[4] Bool.true),1,8,Value.nilFunc,none⟩),
 (110,⟨(TypeDesc.func #[3,3] #[24] Bool.false),1,8,Value.nilFunc,none⟩),
 (111,⟨(TypeDesc.slice 113),1,24,(Value.slice Option.none 0 0),some (.sl (.prod yi (.prod yi (.sl yi))))⟩),
 (112,⟨(TypeDesc.struct #[(Field.mk "Axis" 3 0 false "" "" 0),(Field.mk "Side" 3 1 false "" "" 8),(Field.mk "Tris" 22 2 false "" "" 16)]),3,40,(Value.agg #[zI,zI,(Value.slice Option.none 0 0)]),some (.prod yi (.prod yi (.sl yi)))⟩),
 (113,⟨(TypeDesc.struct #[(Field.mk "Axis" 3 0 false "" "" 0),(Field.mk "Side" 3 1 false "" "" 8),(Field.mk "Tris" 22 2 false "" "" 16)]),3,40,(Value.agg #[zI,zI,(Value.slice Option.none 0 0)]),some (.prod yi (.prod yi (.sl yi)))⟩),
 (114,⟨(TypeDesc.func #[85] #[4] Bool.false),1,8,Value.nilFunc,none⟩),
 (115,⟨(TypeDesc.map 117 22),1,8,(Value.map Option.none),none⟩),
 (116,⟨(TypeDesc.func #[41] #[115] Bool.false),1,8,Value.nilFunc,none⟩),
 (117,⟨(TypeDesc.array 2 3),2,16,(Value.agg #[zI,zI]),some aH⟩),
 (118,⟨(TypeDesc.func #[73,121] #[] Bool.false),1,8,Value.nilFunc,none⟩),
 (119,⟨(TypeDesc.func #[22] #[3] Bool.true),1,8,Value.nilFunc,none⟩),
 (120,⟨(TypeDesc.func #[3,3] #[3] Bool.false),1,8,Value.nilFunc,none⟩),
 (121,⟨(TypeDesc.func #[78,78] #[3] Bool.false),1,8,Value.nilFunc,none⟩),
 (122,⟨(TypeDesc.array 2 31),4,32,(Value.agg #[zI,zI,zI,zI]),some (.prod aH aH)⟩),
 (123,⟨(TypeDesc.func #[31] #[3,3,24] Bool.false),1,8,Value.nilFunc,none⟩),
 (125,⟨(TypeDesc.func #[3,3,3] #[4] Bool.false),1,8,Value.nilFunc,none⟩),
 (126,⟨(TypeDesc.slice 85),1,24,(Value.slice Option.none 0 0),some (.sl (.prod (.sl yi) (.prod (.sl (.prod aH (.prod aH aH))) aH)))⟩),
 (127,⟨(TypeDesc.struct #[(Field.mk "Patch" 85 0 Bool.true "" "" 0),(Field.mk "pad" 3 4 Bool.false "" "limewash/atlas" 64)]),5,72,(Value.agg #[(Value.slice Option.none 0 0),(Value.slice Option.none 0 0),zI,zI,zI]),some (.prod (.prod (.sl yi) (.prod (.sl (.prod aH (.prod aH aH))) aH)) yi)⟩),
 (128,⟨(TypeDesc.struct #[(Field.mk "Patch" 85 0 Bool.true "" "" 0),(Field.mk "pad" 3 4 Bool.false "" "limewash/atlas" 64)]),5,72,(Value.agg #[(Value.slice Option.none 0 0),(Value.slice Option.none 0 0),zI,zI,zI]),some (.prod (.prod (.sl yi) (.prod (.sl (.prod aH (.prod aH aH))) aH)) yi)⟩),
 (129,⟨(TypeDesc.func #[] #[31] Bool.false),1,8,Value.nilFunc,none⟩),
 (130,⟨(TypeDesc.func #[3,3,43] #[4] Bool.true),1,8,Value.nilFunc,none⟩),
 (131,⟨(TypeDesc.func #[49,132] #[49] Bool.false),1,8,Value.nilFunc,none⟩),
 (132,⟨(TypeDesc.func #[31] #[31] Bool.false),1,8,Value.nilFunc,none⟩),
 (133,⟨(TypeDesc.int IntKind.u64),1,8,(Value.int IntKind.u64 (0:Int)),some (.int .u64)⟩),
 (135,⟨(TypeDesc.func #[133,133] #[133,133] Bool.false),1,8,Value.nilFunc,none⟩),
 (136,⟨(TypeDesc.func #[38,55] #[3] Bool.false),1,8,Value.nilFunc,none⟩),
 (138,⟨(TypeDesc.func #[31,31,31] #[3,24] Bool.false),1,8,Value.nilFunc,none⟩),
 (139,⟨(TypeDesc.func #[31,3,91] #[4,24] Bool.false),1,8,Value.nilFunc,none⟩),
 (140,⟨(TypeDesc.func #[37,143] #[4] Bool.false),1,8,Value.nilFunc,none⟩),
 (141,⟨(TypeDesc.struct #[(Field.mk "X" 3 0 false "" "" 0),(Field.mk "Y" 3 1 false "" "" 8),(Field.mk "Z" 3 2 false "" "" 16)]),3,24,(Value.agg #[zI,zI,zI]),some cj⟩),
 (142,⟨(TypeDesc.struct #[(Field.mk "X" 3 0 false "" "" 0),(Field.mk "Y" 3 1 false "" "" 8),(Field.mk "Z" 3 2 false "" "" 16)]),3,24,(Value.agg #[zI,zI,zI]),some cj⟩),
 (143,⟨(TypeDesc.func #[142] #[4] Bool.false),1,8,Value.nilFunc,none⟩),
 (144,⟨(TypeDesc.func #[22,3] #[3] Bool.false),1,8,Value.nilFunc,none⟩),
 (145,⟨(TypeDesc.func #[37] #[4] Bool.true),1,8,Value.nilFunc,none⟩),
 (146,⟨(TypeDesc.func #[3,3,4] #[4] Bool.false),1,8,Value.nilFunc,none⟩),
 (147,⟨(TypeDesc.slice 117),1,24,(Value.slice Option.none 0 0),some (.sl aH)⟩),
 (148,⟨(TypeDesc.func #[107] #[147] Bool.false),1,8,Value.nilFunc,none⟩),
 (149,⟨(TypeDesc.func #[73,3,3,3,121] #[] Bool.false),1,8,Value.nilFunc,none⟩),
 (150,⟨(TypeDesc.func #[133] #[3] Bool.false),1,8,Value.nilFunc,none⟩),
 (151,⟨(TypeDesc.map 3 4),1,8,(Value.map Option.none),none⟩),
 (152,⟨(TypeDesc.func #[43,154] #[4] Bool.false),1,8,Value.nilFunc,none⟩),
 (153,⟨(TypeDesc.func #[89,89] #[4] Bool.false),1,8,Value.nilFunc,none⟩),
 (154,⟨(TypeDesc.func #[89] #[4] Bool.false),1,8,Value.nilFunc,none⟩),
 (155,⟨(TypeDesc.func #[49,93] #[4] Bool.false),1,8,Value.nilFunc,none⟩),
 (157,⟨(TypeDesc.func #[49] #[31,31,24] Bool.true),1,8,Value.nilFunc,none⟩),
 (159,⟨(TypeDesc.func #[31] #[3,3] Bool.false),1,8,Value.nilFunc,none⟩),
 (160,⟨(TypeDesc.func #[49] #[4] Bool.false),1,8,Value.nilFunc,none⟩),
 (161,⟨(TypeDesc.func #[49] #[49] Bool.false),1,8,Value.nilFunc,none⟩),
 (162,⟨(TypeDesc.int IntKind.u32),1,4,(Value.int IntKind.u32 (0:Int)),some (.int .u32)⟩),
 (164,⟨(TypeDesc.func #[162,162] #[162,162] Bool.false),1,8,Value.nilFunc,none⟩),
 (165,⟨(TypeDesc.int IntKind.u64),1,8,(Value.int IntKind.u64 (0:Int)),some (.int .u64)⟩),
 (167,⟨(TypeDesc.func #[165,165] #[165,165] Bool.false),1,8,Value.nilFunc,none⟩),
 (168,⟨(TypeDesc.array 3 31),6,48,(Value.agg #[zI,zI,zI,zI,zI,zI]),some (.prod aH (.prod aH aH))⟩),
 (169,⟨(TypeDesc.func #[] #[3,24] Bool.false),1,8,Value.nilFunc,none⟩),
 (170,⟨(TypeDesc.func #[91,3,38] #[4] Bool.true),1,8,Value.nilFunc,none⟩),
 (171,⟨(TypeDesc.func #[37,143] #[3] Bool.false),1,8,Value.nilFunc,none⟩),
 (172,⟨(TypeDesc.func #[22] #[4] Bool.true),1,8,Value.nilFunc,none⟩),
 (173,⟨(TypeDesc.func #[73,3,3,121] #[] Bool.false),1,8,Value.nilFunc,none⟩),
 (174,⟨(TypeDesc.int IntKind.i64),1,8,zI,some yi⟩),
 (176,⟨(TypeDesc.func #[73,3,3,121] #[3,174] Bool.false),1,8,Value.nilFunc,none⟩),
 (177,⟨(TypeDesc.func #[73,3,3,121] #[4] Bool.false),1,8,Value.nilFunc,none⟩),
 (178,⟨(TypeDesc.func #[73,3,3,3,121] #[3] Bool.false),1,8,Value.nilFunc,none⟩),
 (179,⟨(TypeDesc.func #[73,3,3,3,121] #[3,4] Bool.false),1,8,Value.nilFunc,none⟩),
 (180,⟨(TypeDesc.func #[162] #[3] Bool.false),1,8,Value.nilFunc,none⟩),
 (181,⟨(TypeDesc.func #[165] #[3] Bool.false),1,8,Value.nilFunc,none⟩),
 (182,⟨(TypeDesc.func #[43,154] #[3] Bool.false),1,8,Value.nilFunc,none⟩),
 (183,⟨(TypeDesc.func #[3,3,3,3] #[4] Bool.false),1,8,Value.nilFunc,none⟩),
 (184,⟨(TypeDesc.func #[49,93] #[3] Bool.false),1,8,Value.nilFunc,none⟩),
 (185,⟨(TypeDesc.func #[55] #[] Bool.false),1,8,Value.nilFunc,none⟩),
 (186,⟨(TypeDesc.func #[55] #[] Bool.false),1,8,Value.nilFunc,none⟩),
 (187,⟨(TypeDesc.func #[49] #[186] Bool.false),1,8,Value.nilFunc,none⟩),
 (188,⟨(TypeDesc.func #[3] #[3,24] Bool.false),1,8,Value.nilFunc,none⟩),
 (189,⟨(TypeDesc.func #[91,91] #[4,24] Bool.false),1,8,Value.nilFunc,none⟩),
 (190,⟨(TypeDesc.func #[31,31] #[3,24] Bool.false),1,8,Value.nilFunc,none⟩),
 (191,⟨(TypeDesc.func #[31,31] #[31] Bool.false),1,8,Value.nilFunc,none⟩),
 (192,⟨(TypeDesc.func #[203] #[] Bool.false),1,8,Value.nilFunc,none⟩),
 (193,⟨(TypeDesc.func #[203] #[] Bool.false),1,8,Value.nilFunc,none⟩),
 (194,⟨(TypeDesc.func #[91] #[193] Bool.false),1,8,Value.nilFunc,none⟩),
 (195,⟨(TypeDesc.func #[31] #[3] Bool.false),1,8,Value.nilFunc,none⟩),
 (196,⟨(TypeDesc.int IntKind.u64),1,8,(Value.int IntKind.u64 (0:Int)),some (.int .u64)⟩),
 (197,⟨(TypeDesc.func #[3] #[133] Bool.false),1,8,Value.nilFunc,none⟩),
 (198,⟨(TypeDesc.func #[] #[165] Bool.false),1,8,Value.nilFunc,none⟩),
 (199,⟨(TypeDesc.func #[73,3,200,121] #[3] Bool.false),1,8,Value.nilFunc,none⟩),
 (200,⟨(TypeDesc.pointer 3),1,8,(Value.pointer Option.none),none⟩),
 (201,⟨(TypeDesc.func #[73,3,3,3,200,121] #[3] Bool.false),1,8,Value.nilFunc,none⟩),
 (202,⟨(TypeDesc.func #[91,91,3] #[4,24] Bool.false),1,8,Value.nilFunc,none⟩),
 (203,⟨(TypeDesc.func #[195] #[4] Bool.false),1,8,Value.nilFunc,none⟩),
 (204,⟨(TypeDesc.pointer 196),1,8,(Value.pointer Option.none),none⟩),
 (205,⟨(TypeDesc.func #[73,3,3,200,121] #[3,3] Bool.false),1,8,Value.nilFunc,none⟩),
 (206,⟨(TypeDesc.func #[] #[9] Bool.false),1,8,Value.nilFunc,none⟩),
 (212,⟨(TypeDesc.func #[] #[3] Bool.false),1,8,Value.nilFunc,none⟩),
 (213,⟨(TypeDesc.int IntKind.u8),1,1,(Value.int IntKind.u8 (0:Int)),some (.int .u8)⟩),
 (214,⟨(TypeDesc.int IntKind.u8),1,1,(Value.int IntKind.u8 (0:Int)),some (.int .u8)⟩),
 (215,⟨(TypeDesc.func #[222,222] #[4] Bool.false),1,8,Value.nilFunc,none⟩),
 (216,⟨(TypeDesc.pointer 5),1,8,(Value.pointer Option.none),none⟩),
 (217,⟨(TypeDesc.int IntKind.i32),1,4,(Value.int IntKind.i32 (0:Int)),some (.int .i32)⟩),
 (218,⟨(TypeDesc.int IntKind.i32),1,4,(Value.int IntKind.i32 (0:Int)),some (.int .i32)⟩),
 (221,⟨(TypeDesc.func #[] #[85] Bool.false),1,8,Value.nilFunc,none⟩),
 (222,⟨TypeDesc.unsafePointer,1,8,(Value.pointer Option.none),none⟩)]
set_option maxRecDepth 100000 in
theorem aD:aX Tryz.prog tt:=
 aX.cons (by kernel_rfl) (by decide) (by kernel_rfl) (by kernel_rfl) (
 aX.cons (by kernel_rfl) (by decide) (by kernel_rfl) (by kernel_rfl) (
 aX.cons (by kernel_rfl) (by decide) (by kernel_rfl) (by kernel_rfl) (
 aX.cons (by kernel_rfl) (by decide) (by kernel_rfl) (by kernel_rfl) (
 aX.cons (by kernel_rfl) (by decide) (by kernel_rfl) (by kernel_rfl) (
 aX.cons (by kernel_rfl) (by decide) (by kernel_rfl) (by kernel_rfl) (
 aX.cons (by kernel_rfl) (by decide) (by kernel_rfl) (by kernel_rfl) (
 aX.cons (by kernel_rfl) (by decide) (by kernel_rfl) (by kernel_rfl) (
 aX.cons (by kernel_rfl) (by decide) (by kernel_rfl) (by kernel_rfl) (
 aX.cons (by kernel_rfl) (by decide) (by kernel_rfl) (by kernel_rfl) (
 aX.cons (by kernel_rfl) (by decide) (by kernel_rfl) (by kernel_rfl) (
 aX.cons (by kernel_rfl) (by decide) (by kernel_rfl) (by kernel_rfl) (
 aX.cons (by kernel_rfl) (by decide) (by kernel_rfl) (by kernel_rfl) (
 aX.cons (by kernel_rfl) (by decide) (by kernel_rfl) (by kernel_rfl) (
 aX.cons (by kernel_rfl) (by decide) (by kernel_rfl) (by kernel_rfl) (
 aX.cons (by kernel_rfl) (by decide) (by kernel_rfl) (by kernel_rfl) (
 aX.cons (by kernel_rfl) (by decide) (by kernel_rfl) (by kernel_rfl) (
 aX.cons (by kernel_rfl) (by decide) (by kernel_rfl) (by kernel_rfl) (
 aX.cons (by kernel_rfl) (by decide) (by kernel_rfl) (by kernel_rfl) (
 aX.cons (by kernel_rfl) (by decide) (by kernel_rfl) (by kernel_rfl) (
 aX.cons (by kernel_rfl) (by decide) (by kernel_rfl) (by kernel_rfl) (
 aX.cons (by kernel_rfl) (by decide) (by kernel_rfl) (by kernel_rfl) (
 aX.cons (by kernel_rfl) (by decide) (by kernel_rfl) (by kernel_rfl) (
 aX.cons (by kernel_rfl) (by decide) (by kernel_rfl) (by kernel_rfl) (
 aX.cons (by kernel_rfl) (by decide) (by kernel_rfl) (by kernel_rfl) (
 aX.cons (by kernel_rfl) (by decide) (by kernel_rfl) (by kernel_rfl) (
 aX.cons (by kernel_rfl) (by decide) (by kernel_rfl) (by kernel_rfl) (
 aX.cons (by kernel_rfl) (by decide) (by kernel_rfl) (by kernel_rfl) (
 aX.cons (by kernel_rfl) (by decide) (by kernel_rfl) (by kernel_rfl) (
 aX.cons (by kernel_rfl) (by decide) (by kernel_rfl) (by kernel_rfl) (
 aX.cons (by kernel_rfl) (by decide) (by kernel_rfl) (by kernel_rfl) (
 aX.cons (by kernel_rfl) (by decide) (by kernel_rfl) (by kernel_rfl) (
 aX.cons (by kernel_rfl) (by decide) (by kernel_rfl) (by kernel_rfl) (
 aX.cons (by kernel_rfl) (by decide) (by kernel_rfl) (by kernel_rfl) (
 aX.cons (by kernel_rfl) (by decide) (by kernel_rfl) (by kernel_rfl) (
 aX.cons (by kernel_rfl) (by decide) (by kernel_rfl) (by kernel_rfl) (
 aX.cons (by kernel_rfl) (by decide) (by kernel_rfl) (by kernel_rfl) (
 aX.cons (by kernel_rfl) (by decide) (by kernel_rfl) (by kernel_rfl) (
 aX.cons (by kernel_rfl) (by decide) (by kernel_rfl) (by kernel_rfl) (
 aX.cons (by kernel_rfl) (by decide) (by kernel_rfl) (by kernel_rfl) (
 aX.cons (by kernel_rfl) (by decide) (by kernel_rfl) (by kernel_rfl) (
 aX.cons (by kernel_rfl) (by decide) (by kernel_rfl) (by kernel_rfl) (
 aX.cons (by kernel_rfl) (by decide) (by kernel_rfl) (by kernel_rfl) (
 aX.cons (by kernel_rfl) (by decide) (by kernel_rfl) (by kernel_rfl) (
 aX.cons (by kernel_rfl) (by decide) (by kernel_rfl) (by kernel_rfl) (
 aX.cons (by kernel_rfl) (by decide) (by kernel_rfl) (by kernel_rfl) (
 aX.cons (by kernel_rfl) (by decide) (by kernel_rfl) (by kernel_rfl) (
 aX.cons (by kernel_rfl) (by decide) (by kernel_rfl) (by kernel_rfl) (
 aX.cons (by kernel_rfl) (by decide) (by kernel_rfl) (by kernel_rfl) (
 aX.cons (by kernel_rfl) (by decide) (by kernel_rfl) (by kernel_rfl) (
 aX.cons (by kernel_rfl) (by decide) (by kernel_rfl) (by kernel_rfl) (
 aX.cons (by kernel_rfl) (by decide) (by kernel_rfl) (by kernel_rfl) (
 aX.cons (by kernel_rfl) (by decide) (by kernel_rfl) (by kernel_rfl) (
 aX.cons (by kernel_rfl) (by decide) (by kernel_rfl) (by kernel_rfl) (
 aX.cons (by kernel_rfl) (by decide) (by kernel_rfl) (by kernel_rfl) (
 aX.cons (by kernel_rfl) (by decide) (by kernel_rfl) (by kernel_rfl) (
 aX.cons (by kernel_rfl) (by decide) (by kernel_rfl) (by kernel_rfl) (
 aX.cons (by kernel_rfl) (by decide) (by kernel_rfl) (by kernel_rfl) (
 aX.cons (by kernel_rfl) (by decide) (by kernel_rfl) (by kernel_rfl) (
 aX.cons (by kernel_rfl) (by decide) (by kernel_rfl) (by kernel_rfl) (
 aX.cons (by kernel_rfl) (by decide) (by kernel_rfl) (by kernel_rfl) (
 aX.cons (by kernel_rfl) (by decide) (by kernel_rfl) (by kernel_rfl) (
 aX.cons (by kernel_rfl) (by decide) (by kernel_rfl) (by kernel_rfl) (
 aX.cons (by kernel_rfl) (by decide) (by kernel_rfl) (by kernel_rfl) (
 aX.cons (by kernel_rfl) (by decide) (by kernel_rfl) (by kernel_rfl) (
 aX.cons (by kernel_rfl) (by decide) (by kernel_rfl) (by kernel_rfl) (
 aX.cons (by kernel_rfl) (by decide) (by kernel_rfl) (by kernel_rfl) (
 aX.cons (by kernel_rfl) (by decide) (by kernel_rfl) (by kernel_rfl) (
 aX.cons (by kernel_rfl) (by decide) (by kernel_rfl) (by kernel_rfl) (
 aX.cons (by kernel_rfl) (by decide) (by kernel_rfl) (by kernel_rfl) (
 aX.cons (by kernel_rfl) (by decide) (by kernel_rfl) (by kernel_rfl) (
 aX.cons (by kernel_rfl) (by decide) (by kernel_rfl) (by kernel_rfl) (
 aX.cons (by kernel_rfl) (by decide) (by kernel_rfl) (by kernel_rfl) (
 aX.cons (by kernel_rfl) (by decide) (by kernel_rfl) (by kernel_rfl) (
 aX.cons (by kernel_rfl) (by decide) (by kernel_rfl) (by kernel_rfl) (
 aX.cons (by kernel_rfl) (by decide) (by kernel_rfl) (by kernel_rfl) (
 aX.cons (by kernel_rfl) (by decide) (by kernel_rfl) (by kernel_rfl) (
 aX.cons (by kernel_rfl) (by decide) (by kernel_rfl) (by kernel_rfl) (
 aX.cons (by kernel_rfl) (by decide) (by kernel_rfl) (by kernel_rfl) (
 aX.cons (by kernel_rfl) (by decide) (by kernel_rfl) (by kernel_rfl) (
 aX.cons (by kernel_rfl) (by decide) (by kernel_rfl) (by kernel_rfl) (
 aX.cons (by kernel_rfl) (by decide) (by kernel_rfl) (by kernel_rfl) (
 aX.cons (by kernel_rfl) (by decide) (by kernel_rfl) (by kernel_rfl) (
 aX.cons (by kernel_rfl) (by decide) (by kernel_rfl) (by kernel_rfl) (
 aX.cons (by kernel_rfl) (by decide) (by kernel_rfl) (by kernel_rfl) (
 aX.cons (by kernel_rfl) (by decide) (by kernel_rfl) (by kernel_rfl) (
 aX.cons (by kernel_rfl) (by decide) (by kernel_rfl) (by kernel_rfl) (
 aX.cons (by kernel_rfl) (by decide) (by kernel_rfl) (by kernel_rfl) (
 aX.cons (by kernel_rfl) (by decide) (by kernel_rfl) (by kernel_rfl) (
 aX.cons (by kernel_rfl) (by decide) (by kernel_rfl) (by kernel_rfl) (
 aX.cons (by kernel_rfl) (by decide) (by kernel_rfl) (by kernel_rfl) (
 aX.cons (by kernel_rfl) (by decide) (by kernel_rfl) (by kernel_rfl) (
 aX.cons (by kernel_rfl) (by decide) (by kernel_rfl) (by kernel_rfl) (
 aX.cons (by kernel_rfl) (by decide) (by kernel_rfl) (by kernel_rfl) (
 aX.cons (by kernel_rfl) (by decide) (by kernel_rfl) (by kernel_rfl) (
 aX.cons (by kernel_rfl) (by decide) (by kernel_rfl) (by kernel_rfl) (
 aX.cons (by kernel_rfl) (by decide) (by kernel_rfl) (by kernel_rfl) (
 aX.cons (by kernel_rfl) (by decide) (by kernel_rfl) (by kernel_rfl) (
 aX.cons (by kernel_rfl) (by decide) (by kernel_rfl) (by kernel_rfl) (
 aX.cons (by kernel_rfl) (by decide) (by kernel_rfl) (by kernel_rfl) (
 aX.cons (by kernel_rfl) (by decide) (by kernel_rfl) (by kernel_rfl) (
 aX.cons (by kernel_rfl) (by decide) (by kernel_rfl) (by kernel_rfl) (
 aX.cons (by kernel_rfl) (by decide) (by kernel_rfl) (by kernel_rfl) (
 aX.cons (by kernel_rfl) (by decide) (by kernel_rfl) (by kernel_rfl) (
 aX.cons (by kernel_rfl) (by decide) (by kernel_rfl) (by kernel_rfl) (
 aX.cons (by kernel_rfl) (by decide) (by kernel_rfl) (by kernel_rfl) (
 aX.cons (by kernel_rfl) (by decide) (by kernel_rfl) (by kernel_rfl) (
 aX.cons (by kernel_rfl) (by decide) (by kernel_rfl) (by kernel_rfl) (
 aX.cons (by kernel_rfl) (by decide) (by kernel_rfl) (by kernel_rfl) (
 aX.cons (by kernel_rfl) (by decide) (by kernel_rfl) (by kernel_rfl) (
 aX.cons (by kernel_rfl) (by decide) (by kernel_rfl) (by kernel_rfl) (
 aX.cons (by kernel_rfl) (by decide) (by kernel_rfl) (by kernel_rfl) (
 aX.cons (by kernel_rfl) (by decide) (by kernel_rfl) (by kernel_rfl) (
 aX.cons (by kernel_rfl) (by decide) (by kernel_rfl) (by kernel_rfl) (
 aX.cons (by kernel_rfl) (by decide) (by kernel_rfl) (by kernel_rfl) (
 aX.cons (by kernel_rfl) (by decide) (by kernel_rfl) (by kernel_rfl) (
 aX.cons (by kernel_rfl) (by decide) (by kernel_rfl) (by kernel_rfl) (
 aX.cons (by kernel_rfl) (by decide) (by kernel_rfl) (by kernel_rfl) (
 aX.cons (by kernel_rfl) (by decide) (by kernel_rfl) (by kernel_rfl) (
 aX.cons (by kernel_rfl) (by decide) (by kernel_rfl) (by kernel_rfl) (
 aX.cons (by kernel_rfl) (by decide) (by kernel_rfl) (by kernel_rfl) (
 aX.cons (by kernel_rfl) (by decide) (by kernel_rfl) (by kernel_rfl) (
 aX.cons (by kernel_rfl) (by decide) (by kernel_rfl) (by kernel_rfl) (
 aX.cons (by kernel_rfl) (by decide) (by kernel_rfl) (by kernel_rfl) (
 aX.cons (by kernel_rfl) (by decide) (by kernel_rfl) (by kernel_rfl) (
 aX.cons (by kernel_rfl) (by decide) (by kernel_rfl) (by kernel_rfl) (
 aX.cons (by kernel_rfl) (by decide) (by kernel_rfl) (by kernel_rfl) (
 aX.cons (by kernel_rfl) (by decide) (by kernel_rfl) (by kernel_rfl) (
 aX.cons (by kernel_rfl) (by decide) (by kernel_rfl) (by kernel_rfl) (
 aX.cons (by kernel_rfl) (by decide) (by kernel_rfl) (by kernel_rfl) (
 aX.cons (by kernel_rfl) (by decide) (by kernel_rfl) (by kernel_rfl) (
 aX.cons (by kernel_rfl) (by decide) (by kernel_rfl) (by kernel_rfl) (
 aX.cons (by kernel_rfl) (by decide) (by kernel_rfl) (by kernel_rfl) (
 aX.cons (by kernel_rfl) (by decide) (by kernel_rfl) (by kernel_rfl) (
 aX.cons (by kernel_rfl) (by decide) (by kernel_rfl) (by kernel_rfl) (
 aX.cons (by kernel_rfl) (by decide) (by kernel_rfl) (by kernel_rfl) (
 aX.cons (by kernel_rfl) (by decide) (by kernel_rfl) (by kernel_rfl) (
 aX.cons (by kernel_rfl) (by decide) (by kernel_rfl) (by kernel_rfl) (
 aX.cons (by kernel_rfl) (by decide) (by kernel_rfl) (by kernel_rfl) (
 aX.cons (by kernel_rfl) (by decide) (by kernel_rfl) (by kernel_rfl) (
 aX.cons (by kernel_rfl) (by decide) (by kernel_rfl) (by kernel_rfl) (
 aX.cons (by kernel_rfl) (by decide) (by kernel_rfl) (by kernel_rfl) (
 aX.cons (by kernel_rfl) (by decide) (by kernel_rfl) (by kernel_rfl) (
 aX.cons (by kernel_rfl) (by decide) (by kernel_rfl) (by kernel_rfl) (
 aX.cons (by kernel_rfl) (by decide) (by kernel_rfl) (by kernel_rfl) (
 aX.cons (by kernel_rfl) (by decide) (by kernel_rfl) (by kernel_rfl) (
 aX.cons (by kernel_rfl) (by decide) (by kernel_rfl) (by kernel_rfl) (
 aX.cons (by kernel_rfl) (by decide) (by kernel_rfl) (by kernel_rfl) (
 aX.cons (by kernel_rfl) (by decide) (by kernel_rfl) (by kernel_rfl) (
 aX.cons (by kernel_rfl) (by decide) (by kernel_rfl) (by kernel_rfl) (
 aX.cons (by kernel_rfl) (by decide) (by kernel_rfl) (by kernel_rfl) (
 aX.cons (by kernel_rfl) (by decide) (by kernel_rfl) (by kernel_rfl) (
 aX.cons (by kernel_rfl) (by decide) (by kernel_rfl) (by kernel_rfl) (
 aX.cons (by kernel_rfl) (by decide) (by kernel_rfl) (by kernel_rfl) (
 aX.cons (by kernel_rfl) (by decide) (by kernel_rfl) (by kernel_rfl) (
 aX.cons (by kernel_rfl) (by decide) (by kernel_rfl) (by kernel_rfl) (
 aX.cons (by kernel_rfl) (by decide) (by kernel_rfl) (by kernel_rfl) (
 aX.cons (by kernel_rfl) (by decide) (by kernel_rfl) (by kernel_rfl) (
 aX.cons (by kernel_rfl) (by decide) (by kernel_rfl) (by kernel_rfl) (
 aX.cons (by kernel_rfl) (by decide) (by kernel_rfl) (by kernel_rfl) (
 aX.cons (by kernel_rfl) (by decide) (by kernel_rfl) (by kernel_rfl) (
 aX.cons (by kernel_rfl) (by decide) (by kernel_rfl) (by kernel_rfl) (
 aX.cons (by kernel_rfl) (by decide) (by kernel_rfl) (by kernel_rfl) (
 aX.cons (by kernel_rfl) (by decide) (by kernel_rfl) (by kernel_rfl) (
 aX.cons (by kernel_rfl) (by decide) (by kernel_rfl) (by kernel_rfl) (
 aX.cons (by kernel_rfl) (by decide) (by kernel_rfl) (by kernel_rfl) (
 aX.cons (by kernel_rfl) (by decide) (by kernel_rfl) (by kernel_rfl) (
 aX.cons (by kernel_rfl) (by decide) (by kernel_rfl) (by kernel_rfl) (
 aX.cons (by kernel_rfl) (by decide) (by kernel_rfl) (by kernel_rfl) (
 aX.cons (by kernel_rfl) (by decide) (by kernel_rfl) (by kernel_rfl) (
 aX.cons (by kernel_rfl) (by decide) (by kernel_rfl) (by kernel_rfl) (
 aX.cons (by kernel_rfl) (by decide) (by kernel_rfl) (by kernel_rfl) (
 aX.cons (by kernel_rfl) (by decide) (by kernel_rfl) (by kernel_rfl) (
 aX.cons (by kernel_rfl) (by decide) (by kernel_rfl) (by kernel_rfl) (
 aX.cons (by kernel_rfl) (by decide) (by kernel_rfl) (by kernel_rfl) (
 aX.cons (by kernel_rfl) (by decide) (by kernel_rfl) (by kernel_rfl) (
 aX.cons (by kernel_rfl) (by decide) (by kernel_rfl) (by kernel_rfl) (
 aX.cons (by kernel_rfl) (by decide) (by kernel_rfl) (by kernel_rfl) (
 aX.cons (by kernel_rfl) (by decide) (by kernel_rfl) (by kernel_rfl) (
 aX.cons (by kernel_rfl) (by decide) (by kernel_rfl) (by kernel_rfl) (
 aX.cons (by kernel_rfl) (by decide) (by kernel_rfl) (by kernel_rfl) (
 aX.cons (by kernel_rfl) (by decide) (by kernel_rfl) (by kernel_rfl) (
 aX.cons (by kernel_rfl) (by decide) (by kernel_rfl) (by kernel_rfl) (
 aX.cons (by kernel_rfl) (by decide) (by kernel_rfl) (by kernel_rfl) (
 aX.cons (by kernel_rfl) (by decide) (by kernel_rfl) (by kernel_rfl) (
 aX.cons (by kernel_rfl) (by decide) (by kernel_rfl) (by kernel_rfl) (
 aX.cons (by kernel_rfl) (by decide) (by kernel_rfl) (by kernel_rfl) (
 aX.cons (by kernel_rfl) (by decide) (by kernel_rfl) (by kernel_rfl) (
 aX.cons (by kernel_rfl) (by decide) (by kernel_rfl) (by kernel_rfl) (
 aX.cons (by kernel_rfl) (by decide) (by kernel_rfl) (by kernel_rfl) (
 aX.cons (by kernel_rfl) (by decide) (by kernel_rfl) (by kernel_rfl) (
 aX.nil)))))))))))))))))))))))))))))))))))))))))))))))))))))))))))))))))))))))))))))))))))))))))))))))))))))))))))))))))))))))))))))))))))))))))))))))))))))))))))))))))))))))))))))))))))))))))))))))
theorem mixed:Tryz.prog.follows .mixedOrders=true:=by kernel_rfl
end Go.Proofs.YtojielnkfeoccaaGreat
