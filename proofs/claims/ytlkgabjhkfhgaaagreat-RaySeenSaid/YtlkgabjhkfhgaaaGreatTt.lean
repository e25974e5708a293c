/- The types of this translation, as the evaluator wants them. -/
import Derived.Test.YtlkgabjhkfhgaaaGreatEvR
import Derived.Test.YtlkgabjhkfhgaaaGreatChecked
noncomputable section
set_option linter.unusedSectionVars false
set_option linter.unusedVariables false
set_option linter.unusedSimpArgs false
namespace Go.Proofs.YtlkgabjhkfhgaaaGreat
open Go Go.Ev Go.Proofs
abbrev z0:Int:=0
abbrev z1:Int:=1
abbrev tN (i:Int):Nat:=Int.toNat i
abbrev gI (l:List Int) (i:Int):Int:=List.getD l (Int.toNat i) (0:Int)
abbrev gT {α:Type} (l:List α) (i:Int) (d:α):α:=List.getD l (Int.toNat i) d
abbrev nL {α:Type} (l:List α):Int:=((List.length l:Nat):Int)
abbrev _root_.Go.Ev.Tr.oI1 {τ α:Type} {i:Bool} (j:Int) (l:List α) (t:Tr τ i):Tr τ true:= .oR j ((List.length l:Nat):Int) (.od (Int.toNat j<List.length l) t)
abbrev _root_.Go.Ev.Tr.bO {τ α:Type} {i:Bool} (j:Int) (l:List α) (t:Tr τ i):Tr τ true:= .oR j ((List.length l:Nat):Int) (.od (Int.toNat j<List.length l) (.od (Int.toNat j<List.length l) t))
abbrev _root_.Go.Ev.Tr.oI3 {τ α:Type} {i:Bool} (j:Int) (l:List α) (t:Tr τ i):Tr τ true:= .oR j ((List.length l:Nat):Int) (.od (Int.toNat j<List.length l) (.od (Int.toNat j<List.length l) (.od (Int.toNat j<List.length l) t)))
abbrev w1 (i:Int):Int:=ae (i+(1:Int))
abbrev wm (i:Int):Int:=ae (i- (1:Int))
abbrev zI:Value:=Value.int IntKind.i64 0
def tt:List (Nat×TI):=
 [(1,⟨(TypeDesc.func #[] #[] Bool.false),1,8,Value.nilFunc,none⟩),
 (2,⟨(TypeDesc.int IntKind.i64),1,8,zI,some yi⟩),
 (3,⟨(TypeDesc.int IntKind.i64),1,8,zI,some yi⟩),
 (4,⟨TypeDesc.bool,1,1,(Value.bool Bool.false),some .bool⟩),
 (5,⟨(TypeDesc.int IntKind.u8),1,1,(Value.int IntKind.u8 (0:Int)),some (.int .u8)⟩),
 (6,⟨(TypeDesc.int IntKind.u8),1,1,(Value.int IntKind.u8 (0:Int)),some (.int .u8)⟩),
 (7,⟨(TypeDesc.struct #[(Field.mk "x" 2 0 Bool.false "" "runtime" 0),(Field.mk "y" 3 1 Bool.false "" "runtime" 8),(Field.mk "signed" 4 2 Bool.false "" "runtime" 16),(Field.mk "code" 6 3 Bool.false "" "runtime" 17)]),4,24,(Value.agg #[zI,zI,(Value.bool Bool.false),(Value.int IntKind.u8 (0:Int))]),some (.prod yi (.prod yi (.prod .bool (.int .u8))))⟩),
 (8,⟨(TypeDesc.struct #[(Field.mk "x" 2 0 Bool.false "" "runtime" 0),(Field.mk "y" 3 1 Bool.false "" "runtime" 8),(Field.mk "signed" 4 2 Bool.false "" "runtime" 16),(Field.mk "code" 6 3 Bool.false "" "runtime" 17)]),4,24,(Value.agg #[zI,zI,(Value.bool Bool.false),(Value.int IntKind.u8 (0:Int))]),some (.prod yi (.prod yi (.prod .bool (.int .u8))))⟩),
 (9,⟨TypeDesc.string,1,16,(Value.string (ByteArray.mk #[])),some .str⟩),
 (10,⟨TypeDesc.string,1,16,(Value.string (ByteArray.mk #[])),some .str⟩),
 (11,⟨TypeDesc.string,1,16,(Value.string (ByteArray.mk #[])),some .str⟩),
 (12,⟨(TypeDesc.int IntKind.u64),1,8,(Value.int IntKind.u64 (0:Int)),some (.int .u64)⟩),
 (15,⟨(TypeDesc.pointer 243),1,8,(Value.pointer Option.none),none⟩),
 (16,⟨(TypeDesc.pointer 246),1,8,(Value.pointer Option.none),none⟩),
 (17,⟨(TypeDesc.pointer 255),1,8,(Value.pointer Option.none),none⟩),
 (21,⟨(TypeDesc.int IntKind.i32),1,4,(Value.int IntKind.i32 (0:Int)),some (.int .i32)⟩),
 (22,⟨(TypeDesc.slice 71),1,24,(Value.slice Option.none 0 0),some (.sl bP)⟩),
 (23,⟨(TypeDesc.slice 69),1,24,(Value.slice Option.none 0 0),some (.sl (.prod (.prod bz bz) (.prod yi (.prod yi (.sl yi)))))⟩),
 (24,⟨(TypeDesc.slice 41),1,24,(Value.slice Option.none 0 0),some (.sl (.prod bz bz))⟩),
 (25,⟨(TypeDesc.func #[23] #[4] Bool.false),1,8,Value.nilFunc,none⟩),
 (26,⟨(TypeDesc.func #[22] #[22] Bool.false),1,8,Value.nilFunc,none⟩),
 (27,⟨(TypeDesc.func #[23] #[23] Bool.false),1,8,Value.nilFunc,none⟩),
 (28,⟨(TypeDesc.pointer 90),1,8,(Value.pointer Option.none),none⟩),
 (29,⟨(TypeDesc.int IntKind.i64),1,8,zI,some yi⟩),
 (31,⟨(TypeDesc.func #[22] #[28,29] Bool.false),1,8,Value.nilFunc,none⟩),
 (32,⟨(TypeDesc.pointer 47),1,8,(Value.pointer Option.none),none⟩),
 (34,⟨(TypeDesc.func #[22] #[32,29] Bool.false),1,8,Value.nilFunc,none⟩),
 (35,⟨(TypeDesc.slice 39),1,24,(Value.slice Option.none 0 0),some (.sl bz)⟩),
 (37,⟨(TypeDesc.func #[23,22,39,39] #[4,3,29] Bool.false),1,8,Value.nilFunc,none⟩),
 (38,⟨(TypeDesc.struct #[(Field.mk "X" 3 0 false "" "" 0),(Field.mk "Y" 3 1 false "" "" 8),(Field.mk "Z" 3 2 false "" "" 16)]),3,24,(Value.agg #[zI,zI,zI]),some bz⟩),
 (39,⟨(TypeDesc.struct #[(Field.mk "X" 3 0 false "" "" 0),(Field.mk "Y" 3 1 false "" "" 8),(Field.mk "Z" 3 2 false "" "" 16)]),3,24,(Value.agg #[zI,zI,zI]),some bz⟩),
 (40,⟨(TypeDesc.struct #[(Field.mk "A" 39 0 false "" "" 0),(Field.mk "B" 39 3 false "" "" 24)]),6,48,(Value.agg #[zI,zI,zI,zI,zI,zI]),some (.prod bz bz)⟩),
 (41,⟨(TypeDesc.struct #[(Field.mk "A" 39 0 false "" "" 0),(Field.mk "B" 39 3 false "" "" 24)]),6,48,(Value.agg #[zI,zI,zI,zI,zI,zI]),some (.prod bz bz)⟩),
 (43,⟨(TypeDesc.func #[39,39] #[4,29] Bool.false),1,8,Value.nilFunc,none⟩),
 (45,⟨(TypeDesc.func #[] #[3,3] Bool.false),1,8,Value.nilFunc,none⟩),
 (46,⟨(TypeDesc.struct #[(Field.mk "L" 22 0 false "" "" 0),(Field.mk "T" 23 1 false "" "" 24),(Field.mk "Ways" 3 2 false "" "" 48),(Field.mk "All" 3 3 false "" "" 56)]),4,64,(Value.agg #[(Value.slice Option.none 0 0),(Value.slice Option.none 0 0),zI,zI]),some (.prod (.sl bP) (.prod (.sl (.prod (.prod bz bz) (.prod yi (.prod yi (.sl yi))))) Dm))⟩),
 (47,⟨(TypeDesc.struct #[(Field.mk "L" 22 0 false "" "" 0),(Field.mk "T" 23 1 false "" "" 24),(Field.mk "Ways" 3 2 false "" "" 48),(Field.mk "All" 3 3 false "" "" 56)]),4,64,(Value.agg #[(Value.slice Option.none 0 0),(Value.slice Option.none 0 0),zI,zI]),some (.prod (.sl bP) (.prod (.sl (.prod (.prod bz bz) (.prod yi (.prod yi (.sl yi))))) Dm))⟩),
 (49,⟨(TypeDesc.func #[22,39,35] #[3,29] Bool.true),1,8,Value.nilFunc,none⟩),
 (50,⟨(TypeDesc.func #[22,39,35] #[3,29] Bool.false),1,8,Value.nilFunc,none⟩),
 (51,⟨(TypeDesc.func #[] #[4] Bool.false),1,8,Value.nilFunc,none⟩),
 (52,⟨(TypeDesc.func #[22,22] #[4] Bool.false),1,8,Value.nilFunc,none⟩),
 (53,⟨(TypeDesc.func #[23,23] #[4] Bool.false),1,8,Value.nilFunc,none⟩),
 (54,⟨(TypeDesc.func #[22,23,24] #[4] Bool.false),1,8,Value.nilFunc,none⟩),
 (56,⟨(TypeDesc.func #[22] #[23,29] Bool.false),1,8,Value.nilFunc,none⟩),
 (57,⟨(TypeDesc.func #[22,24] #[4] Bool.false),1,8,Value.nilFunc,none⟩),
 (58,⟨(TypeDesc.func #[22,22,39,39] #[4] Bool.false),1,8,Value.nilFunc,none⟩),
 (59,⟨(TypeDesc.func #[22,39,35,35] #[4] Bool.false),1,8,Value.nilFunc,none⟩),
 (60,⟨(TypeDesc.func #[39,39] #[4] Bool.false),1,8,Value.nilFunc,none⟩),
 (62,⟨(TypeDesc.func #[39,39,22] #[3,4,29] Bool.true),1,8,Value.nilFunc,none⟩),
 (63,⟨(TypeDesc.func #[35] #[4] Bool.true),1,8,Value.nilFunc,none⟩),
 (64,⟨(TypeDesc.func #[22,39,39] #[4] Bool.false),1,8,Value.nilFunc,none⟩),
 (65,⟨(TypeDesc.struct #[(Field.mk "Low" 39 0 false "" "" 0),(Field.mk "High" 39 3 false "" "" 24)]),6,48,(Value.agg #[zI,zI,zI,zI,zI,zI]),some (.prod bz bz)⟩),
 (66,⟨(TypeDesc.struct #[(Field.mk "Low" 39 0 false "" "" 0),(Field.mk "High" 39 3 false "" "" 24)]),6,48,(Value.agg #[zI,zI,zI,zI,zI,zI]),some (.prod bz bz)⟩),
 (67,⟨(TypeDesc.slice 3),1,24,(Value.slice Option.none 0 0),some (.sl yi)⟩),
 (68,⟨(TypeDesc.struct #[(Field.mk "Box" 66 0 false "" "" 0),(Field.mk "Left" 3 6 false "" "" 48),(Field.mk "Right" 3 7 false "" "" 56),(Field.mk "Tris" 67 8 false "" "" 64)]),9,88,(Value.agg #[zI,zI,zI,zI,zI,zI,zI,zI,(Value.slice Option.none 0 0)]),some (.prod (.prod bz bz) (.prod yi (.prod yi (.sl yi))))⟩),
 (69,⟨(TypeDesc.struct #[(Field.mk "Box" 66 0 false "" "" 0),(Field.mk "Left" 3 6 false "" "" 48),(Field.mk "Right" 3 7 false "" "" 56),(Field.mk "Tris" 67 8 false "" "" 64)]),9,88,(Value.agg #[zI,zI,zI,zI,zI,zI,zI,zI,(Value.slice Option.none 0 0)]),some (.prod (.prod bz bz) (.prod yi (.prod yi (.sl yi))))⟩),
 (70,⟨(TypeDesc.func #[67] #[67] Bool.false),1,8,Value.nilFunc,none⟩),
 (71,⟨(TypeDesc.array 3 39),9,72,(Value.agg #[zI,zI,zI,zI,zI,zI,zI,zI,zI]),some bP⟩),
 (72,⟨(TypeDesc.func #[71] #[4] Bool.false),1,8,Value.nilFunc,none⟩),
 (73,⟨(TypeDesc.func #[22,72] #[4] Bool.false),1,8,Value.nilFunc,none⟩),
 (77,⟨(TypeDesc.int IntKind.u32),1,4,(Value.int IntKind.u32 (0:Int)),some (.int .u32)⟩),
 (78,⟨(TypeDesc.struct #[(Field.mk "_" 76 0 Bool.false "" "sync/atomic" 0),(Field.mk "v" 77 0 Bool.false "" "sync/atomic" 0)]),1,4,(Value.agg #[(Value.int IntKind.u32 (0:Int))]),none⟩),
 (79,⟨(TypeDesc.struct #[(Field.mk "_" 76 0 Bool.false "" "sync/atomic" 0),(Field.mk "v" 77 0 Bool.false "" "sync/atomic" 0)]),1,4,(Value.agg #[(Value.int IntKind.u32 (0:Int))]),none⟩),
 (80,⟨(TypeDesc.struct #[(Field.mk "state" 21 0 Bool.false "" "internal/sync" 0),(Field.mk "sema" 77 1 Bool.false "" "internal/sync" 4)]),2,8,(Value.agg #[(Value.int IntKind.i32 (0:Int)),(Value.int IntKind.u32 (0:Int))]),some (.prod (.int .i32) (.int .u32))⟩),
 (81,⟨(TypeDesc.struct #[(Field.mk "state" 21 0 Bool.false "" "internal/sync" 0),(Field.mk "sema" 77 1 Bool.false "" "internal/sync" 4)]),2,8,(Value.agg #[(Value.int IntKind.i32 (0:Int)),(Value.int IntKind.u32 (0:Int))]),some (.prod (.int .i32) (.int .u32))⟩),
 (82,⟨(TypeDesc.struct #[(Field.mk "_" 75 0 Bool.false "" "sync" 0),(Field.mk "mu" 81 0 Bool.false "" "sync" 0)]),2,8,(Value.agg #[(Value.int IntKind.i32 (0:Int)),(Value.int IntKind.u32 (0:Int))]),none⟩),
 (83,⟨(TypeDesc.struct #[(Field.mk "_" 75 0 Bool.false "" "sync" 0),(Field.mk "mu" 81 0 Bool.false "" "sync" 0)]),2,8,(Value.agg #[(Value.int IntKind.i32 (0:Int)),(Value.int IntKind.u32 (0:Int))]),none⟩),
 (84,⟨(TypeDesc.struct #[(Field.mk "_" 75 0 Bool.false "" "sync" 0),(Field.mk "done" 79 0 Bool.false "" "sync" 0),(Field.mk "m" 83 1 Bool.false "" "sync" 4)]),3,12,(Value.agg #[(Value.int IntKind.u32 (0:Int)),(Value.int IntKind.i32 (0:Int)),(Value.int IntKind.u32 (0:Int))]),none⟩),
 (85,⟨(TypeDesc.struct #[(Field.mk "_" 75 0 Bool.false "" "sync" 0),(Field.mk "done" 79 0 Bool.false "" "sync" 0),(Field.mk "m" 83 1 Bool.false "" "sync" 4)]),3,12,(Value.agg #[(Value.int IntKind.u32 (0:Int)),(Value.int IntKind.i32 (0:Int)),(Value.int IntKind.u32 (0:Int))]),none⟩),
 (87,⟨(TypeDesc.struct #[(Field.mk "_" 76 0 Bool.false "" "sync/atomic" 0),(Field.mk "_" 86 0 Bool.false "" "sync/atomic" 0),(Field.mk "v" 2 0 Bool.false "" "sync/atomic" 0)]),1,8,(Value.agg #[zI]),none⟩),
 (88,⟨(TypeDesc.struct #[(Field.mk "_" 76 0 Bool.false "" "sync/atomic" 0),(Field.mk "_" 86 0 Bool.false "" "sync/atomic" 0),(Field.mk "v" 2 0 Bool.false "" "sync/atomic" 0)]),1,8,(Value.agg #[zI]),none⟩),
 (89,⟨(TypeDesc.struct #[(Field.mk "l" 22 0 Bool.false "" "limewash/ray" 0),(Field.mk "grown" 85 1 Bool.false "" "limewash/ray" 24),(Field.mk "t" 23 4 Bool.false "" "limewash/ray" 40),(Field.mk "ways" 88 5 Bool.false "" "limewash/ray" 64),(Field.mk "seen" 88 6 Bool.false "" "limewash/ray" 72)]),7,80,(Value.agg #[(Value.slice Option.none 0 0),(Value.int IntKind.u32 (0:Int)),(Value.int IntKind.i32 (0:Int)),(Value.int IntKind.u32 (0:Int)),(Value.slice Option.none 0 0),zI,zI]),none⟩),
 (90,⟨(TypeDesc.struct #[(Field.mk "l" 22 0 Bool.false "" "limewash/ray" 0),(Field.mk "grown" 85 1 Bool.false "" "limewash/ray" 24),(Field.mk "t" 23 4 Bool.false "" "limewash/ray" 40),(Field.mk "ways" 88 5 Bool.false "" "limewash/ray" 64),(Field.mk "seen" 88 6 Bool.false "" "limewash/ray" 72)]),7,80,(Value.agg #[(Value.slice Option.none 0 0),(Value.int IntKind.u32 (0:Int)),(Value.int IntKind.i32 (0:Int)),(Value.int IntKind.u32 (0:Int)),(Value.slice Option.none 0 0),zI,zI]),none⟩),
 (91,⟨(TypeDesc.func #[23,22] #[4] Bool.false),1,8,Value.nilFunc,none⟩),
 (93,⟨(TypeDesc.struct #[(Field.mk "t" 23 0 Bool.false "" "limewash/ray" 0),(Field.mk "l" 22 1 Bool.false "" "limewash/ray" 24),(Field.mk "a" 39 2 Bool.false "" "limewash/ray" 48),(Field.mk "b" 39 5 Bool.false "" "limewash/ray" 72)]),8,96,(Value.agg #[(Value.slice Option.none 0 0),(Value.slice Option.none 0 0),zI,zI,zI,zI,zI,zI]),some (.prod (.sl (.prod (.prod bz bz) (.prod yi (.prod yi (.sl yi))))) (.prod (.sl bP) (.prod bz bz)))⟩),
 (94,⟨(TypeDesc.struct #[(Field.mk "t" 23 0 Bool.false "" "limewash/ray" 0),(Field.mk "l" 22 1 Bool.false "" "limewash/ray" 24),(Field.mk "a" 39 2 Bool.false "" "limewash/ray" 48),(Field.mk "b" 39 5 Bool.false "" "limewash/ray" 72)]),8,96,(Value.agg #[(Value.slice Option.none 0 0),(Value.slice Option.none 0 0),zI,zI,zI,zI,zI,zI]),some (.prod (.sl (.prod (.prod bz bz) (.prod yi (.prod yi (.sl yi))))) (.prod (.sl bP) (.prod bz bz)))⟩),
 (95,⟨(TypeDesc.func #[] #[4,3] Bool.false),1,8,Value.nilFunc,none⟩),
 (96,⟨(TypeDesc.func #[23,22,3,39,39] #[4,3] Bool.false),1,8,Value.nilFunc,none⟩),
 (97,⟨(TypeDesc.func #[] #[23] Bool.false),1,8,Value.nilFunc,none⟩),
 (98,⟨(TypeDesc.func #[2] #[2] Bool.false),1,8,Value.nilFunc,none⟩),
 (99,⟨(TypeDesc.func #[] #[2] Bool.false),1,8,Value.nilFunc,none⟩),
 (100,⟨(TypeDesc.func #[39] #[4] Bool.false),1,8,Value.nilFunc,none⟩),
 (101,⟨(TypeDesc.func #[35] #[4] Bool.false),1,8,Value.nilFunc,none⟩),
 (102,⟨(TypeDesc.func #[67,67] #[4] Bool.false),1,8,Value.nilFunc,none⟩),
 (103,⟨(TypeDesc.slice 71),1,24,(Value.slice Option.none 0 0),some (.sl bP)⟩),
 (104,⟨(TypeDesc.func #[67] #[] Bool.false),1,8,Value.nilFunc,none⟩),
 (105,⟨(TypeDesc.func #[67] #[66] Bool.false),1,8,Value.nilFunc,none⟩),
 (107,⟨(TypeDesc.func #[67] #[67,67] Bool.false),1,8,Value.nilFunc,none⟩),
 (108,⟨(TypeDesc.func #[39,39,71] #[4,29] Bool.false),1,8,Value.nilFunc,none⟩),
 (109,⟨(TypeDesc.func #[3,67] #[4] Bool.true),1,8,Value.nilFunc,none⟩),
 (110,⟨(TypeDesc.func #[22,72] #[3] Bool.false),1,8,Value.nilFunc,none⟩),
 (111,⟨(TypeDesc.func #[22] #[4] Bool.false),1,8,Value.nilFunc,none⟩),
 (112,⟨(TypeDesc.func #[22,23,67] #[23] Bool.false),1,8,Value.nilFunc,none⟩),
 (114,⟨(TypeDesc.func #[23] #[67,4] Bool.false),1,8,Value.nilFunc,none⟩),
 (115,⟨(TypeDesc.slice 4),1,24,(Value.slice Option.none 0 0),some (.sl .bool)⟩),
 (116,⟨(TypeDesc.struct #[(Field.mk "Branch" 69 0 Bool.true "" "" 0),(Field.mk "at" 3 9 Bool.false "" "limewash/tree" 88)]),10,96,(Value.agg #[zI,zI,zI,zI,zI,zI,zI,zI,(Value.slice Option.none 0 0),zI]),some (.prod (.prod (.prod bz bz) (.prod yi (.prod yi (.sl yi)))) yi)⟩),
 (117,⟨(TypeDesc.struct #[(Field.mk "Branch" 69 0 Bool.true "" "" 0),(Field.mk "at" 3 9 Bool.false "" "limewash/tree" 88)]),10,96,(Value.agg #[zI,zI,zI,zI,zI,zI,zI,zI,(Value.slice Option.none 0 0),zI]),some (.prod (.prod (.prod bz bz) (.prod yi (.prod yi (.sl yi)))) yi)⟩),
 (118,⟨(TypeDesc.func #[115,4] #[4] Bool.false),1,8,Value.nilFunc,none⟩),
 (119,⟨(TypeDesc.func #[39,39,66] #[4,29] Bool.false),1,8,Value.nilFunc,none⟩),
 (120,⟨(TypeDesc.func #[67,121] #[4] Bool.false),1,8,Value.nilFunc,none⟩),
 (121,⟨(TypeDesc.func #[3] #[4] Bool.false),1,8,Value.nilFunc,none⟩),
 (122,⟨(TypeDesc.func #[23,3] #[67] Bool.false),1,8,Value.nilFunc,none⟩),
 (123,⟨(TypeDesc.func #[66,39] #[4] Bool.false),1,8,Value.nilFunc,none⟩),
 (124,⟨(TypeDesc.func #[1] #[] Bool.false),1,8,Value.nilFunc,none⟩),
 (125,⟨(TypeDesc.pointer 88),1,8,(Value.pointer Option.none),none⟩),
 (126,⟨(TypeDesc.func #[127,2] #[2] Bool.false),1,8,Value.nilFunc,none⟩),
 (127,⟨(TypeDesc.pointer 2),1,8,(Value.pointer Option.none),none⟩),
 (128,⟨(TypeDesc.func #[127] #[2] Bool.false),1,8,Value.nilFunc,none⟩),
 (129,⟨(TypeDesc.func #[103,72] #[4] Bool.false),1,8,Value.nilFunc,none⟩),
 (131,⟨(TypeDesc.func #[35] #[66,29] Bool.true),1,8,Value.nilFunc,none⟩),
 (132,⟨(TypeDesc.func #[66] #[3,29] Bool.false),1,8,Value.nilFunc,none⟩),
 (133,⟨(TypeDesc.func #[3,3] #[3] Bool.false),1,8,Value.nilFunc,none⟩),
 (134,⟨(TypeDesc.struct #[(Field.mk "forest" 103 0 Bool.true "" "limewash/tree" 0),(Field.mk "axis" 3 1 Bool.false "" "limewash/tree" 24)]),2,32,(Value.agg #[(Value.slice Option.none 0 0),zI]),some (.prod (.sl bP) yi)⟩),
 (135,⟨(TypeDesc.struct #[(Field.mk "forest" 103 0 Bool.true "" "limewash/tree" 0),(Field.mk "axis" 3 1 Bool.false "" "limewash/tree" 24)]),2,32,(Value.agg #[(Value.slice Option.none 0 0),zI]),some (.prod (.sl bP) yi)⟩),
 (136,⟨(TypeDesc.func #[67,133] #[] Bool.false),1,8,Value.nilFunc,none⟩),
 (137,⟨(TypeDesc.func #[39,71] #[3,29] Bool.false),1,8,Value.nilFunc,none⟩),
 (138,⟨(TypeDesc.array 3 3),3,24,(Value.agg #[zI,zI,zI]),some bz⟩),
 (139,⟨(TypeDesc.func #[39,39,39,39] #[3,29] Bool.false),1,8,Value.nilFunc,none⟩),
 (140,⟨(TypeDesc.func #[121,67] #[4] Bool.true),1,8,Value.nilFunc,none⟩),
 (141,⟨(TypeDesc.func #[22,67] #[66] Bool.false),1,8,Value.nilFunc,none⟩),
 (143,⟨(TypeDesc.func #[22,67] #[67,67,29] Bool.false),1,8,Value.nilFunc,none⟩),
 (144,⟨(TypeDesc.func #[67,3] #[67] Bool.false),1,8,Value.nilFunc,none⟩),
 (145,⟨(TypeDesc.func #[67,3] #[4] Bool.false),1,8,Value.nilFunc,none⟩),
 (146,⟨(TypeDesc.func #[115,4] #[3] Bool.false),1,8,Value.nilFunc,none⟩),
 (147,⟨(TypeDesc.func #[66] #[4] Bool.false),1,8,Value.nilFunc,none⟩),
 (148,⟨(TypeDesc.struct #[(Field.mk "N" 3 0 false "" "" 0),(Field.mk "D" 3 1 false "" "" 8)]),2,16,(Value.agg #[zI,zI]),some Dm⟩),
 (149,⟨(TypeDesc.struct #[(Field.mk "N" 3 0 false "" "" 0),(Field.mk "D" 3 1 false "" "" 8)]),2,16,(Value.agg #[zI,zI]),some Dm⟩),
 (150,⟨(TypeDesc.func #[149,149] #[3] Bool.false),1,8,Value.nilFunc,none⟩),
 (151,⟨(TypeDesc.func #[3,3,3] #[] Bool.false),1,8,Value.nilFunc,none⟩),
 (152,⟨(TypeDesc.func #[39] #[138] Bool.false),1,8,Value.nilFunc,none⟩),
 (153,⟨(TypeDesc.func #[67,121] #[3] Bool.false),1,8,Value.nilFunc,none⟩),
 (154,⟨(TypeDesc.func #[69] #[4] Bool.false),1,8,Value.nilFunc,none⟩),
 (156,⟨(TypeDesc.func #[3,3,3,3,149,149] #[149,149,4] Bool.false),1,8,Value.nilFunc,none⟩),
 (157,⟨(TypeDesc.func #[35,71] #[4] Bool.false),1,8,Value.nilFunc,none⟩),
 (158,⟨(TypeDesc.pointer 85),1,8,(Value.pointer Option.none),none⟩),
 (159,⟨(TypeDesc.func #[103,72] #[3] Bool.false),1,8,Value.nilFunc,none⟩),
 (160,⟨(TypeDesc.func #[138] #[39] Bool.false),1,8,Value.nilFunc,none⟩),
 (161,⟨(TypeDesc.func #[67] #[3] Bool.true),1,8,Value.nilFunc,none⟩),
 (162,⟨(TypeDesc.func #[3] #[3] Bool.false),1,8,Value.nilFunc,none⟩),
 (163,⟨(TypeDesc.func #[67,3,3,3,133] #[] Bool.false),1,8,Value.nilFunc,none⟩),
 (164,⟨(TypeDesc.func #[165] #[3] Bool.false),1,8,Value.nilFunc,none⟩),
 (165,⟨(TypeDesc.int IntKind.u64),1,8,(Value.int IntKind.u64 (0:Int)),some (.int .u64)⟩),
 (167,⟨(TypeDesc.func #[39,39,39] #[39,29] Bool.false),1,8,Value.nilFunc,none⟩),
 (168,⟨(TypeDesc.func #[39,39] #[39] Bool.false),1,8,Value.nilFunc,none⟩),
 (169,⟨(TypeDesc.func #[35] #[66,29] Bool.false),1,8,Value.nilFunc,none⟩),
 (170,⟨(TypeDesc.func #[22,3,3,3] #[4] Bool.false),1,8,Value.nilFunc,none⟩),
 (172,⟨(TypeDesc.func #[165,165] #[165,165] Bool.false),1,8,Value.nilFunc,none⟩),
 (173,⟨(TypeDesc.func #[67,3] #[3] Bool.false),1,8,Value.nilFunc,none⟩),
 (174,⟨(TypeDesc.struct #[(Field.mk "N" 3 0 false "" "" 0),(Field.mk "D" 3 1 false "" "" 8)]),2,16,(Value.agg #[zI,zI]),some Dm⟩),
 (175,⟨(TypeDesc.func #[174] #[3] Bool.false),1,8,Value.nilFunc,none⟩),
 (176,⟨(TypeDesc.func #[149] #[4] Bool.false),1,8,Value.nilFunc,none⟩),
 (177,⟨(TypeDesc.struct #[(Field.mk "Below" 4 0 false "" "" 0),(Field.mk "D" 67 1 false "" "" 8)]),2,32,(Value.agg #[(Value.bool Bool.false),(Value.slice Option.none 0 0)]),some (.prod .bool (.sl yi))⟩),
 (178,⟨(TypeDesc.struct #[(Field.mk "Below" 4 0 false "" "" 0),(Field.mk "D" 67 1 false "" "" 8)]),2,32,(Value.agg #[(Value.bool Bool.false),(Value.slice Option.none 0 0)]),some (.prod .bool (.sl yi))⟩),
 (179,⟨(TypeDesc.func #[178,178] #[178] Bool.false),1,8,Value.nilFunc,none⟩),
 (180,⟨(TypeDesc.func #[3] #[178] Bool.false),1,8,Value.nilFunc,none⟩),
 (181,⟨(TypeDesc.func #[178,178] #[4] Bool.false),1,8,Value.nilFunc,none⟩),
 (182,⟨(TypeDesc.pointer 79),1,8,(Value.pointer Option.none),none⟩),
 (183,⟨(TypeDesc.func #[184] #[77] Bool.false),1,8,Value.nilFunc,none⟩),
 (184,⟨(TypeDesc.pointer 77),1,8,(Value.pointer Option.none),none⟩),
 (185,⟨(TypeDesc.func #[4] #[] Bool.false),1,8,Value.nilFunc,none⟩),
 (186,⟨(TypeDesc.func #[67,3,3,133] #[] Bool.false),1,8,Value.nilFunc,none⟩),
 (187,⟨(TypeDesc.int IntKind.i64),1,8,zI,some yi⟩),
 (189,⟨(TypeDesc.func #[67,3,3,133] #[3,187] Bool.false),1,8,Value.nilFunc,none⟩),
 (190,⟨(TypeDesc.func #[67,3,3,133] #[4] Bool.false),1,8,Value.nilFunc,none⟩),
 (191,⟨(TypeDesc.func #[67,3,3,3,133] #[3] Bool.false),1,8,Value.nilFunc,none⟩),
 (193,⟨(TypeDesc.func #[67,3,3,3,133] #[3,4] Bool.false),1,8,Value.nilFunc,none⟩),
 (194,⟨(TypeDesc.func #[77] #[3] Bool.false),1,8,Value.nilFunc,none⟩),
 (195,⟨(TypeDesc.func #[196] #[3] Bool.false),1,8,Value.nilFunc,none⟩),
 (196,⟨(TypeDesc.int IntKind.u64),1,8,(Value.int IntKind.u64 (0:Int)),some (.int .u64)⟩),
 (197,⟨(TypeDesc.array 3 39),9,72,(Value.agg #[zI,zI,zI,zI,zI,zI,zI,zI,zI]),some bP⟩),
 (198,⟨(TypeDesc.func #[] #[39,29] Bool.false),1,8,Value.nilFunc,none⟩),
 (199,⟨(TypeDesc.func #[71,3] #[3] Bool.false),1,8,Value.nilFunc,none⟩),
 (201,⟨(TypeDesc.func #[77,77] #[77,77] Bool.false),1,8,Value.nilFunc,none⟩),
 (203,⟨(TypeDesc.func #[196,196] #[196,196] Bool.false),1,8,Value.nilFunc,none⟩),
 (204,⟨(TypeDesc.struct #[(Field.mk "Hi" 3 0 false "" "" 0),(Field.mk "Lo" 3 1 false "" "" 8)]),2,16,(Value.agg #[zI,zI]),some Dm⟩),
 (205,⟨(TypeDesc.struct #[(Field.mk "Hi" 3 0 false "" "" 0),(Field.mk "Lo" 3 1 false "" "" 8)]),2,16,(Value.agg #[zI,zI]),some Dm⟩),
 (207,⟨(TypeDesc.func #[3,3] #[205,29] Bool.false),1,8,Value.nilFunc,none⟩),
 (208,⟨(TypeDesc.func #[205,205] #[3] Bool.false),1,8,Value.nilFunc,none⟩),
 (209,⟨(TypeDesc.func #[4,67] #[178] Bool.false),1,8,Value.nilFunc,none⟩),
 (210,⟨(TypeDesc.func #[178] #[178] Bool.false),1,8,Value.nilFunc,none⟩),
 (211,⟨(TypeDesc.func #[39,39] #[39,29] Bool.false),1,8,Value.nilFunc,none⟩),
 (212,⟨(TypeDesc.pointer 83),1,8,(Value.pointer Option.none),none⟩),
 (213,⟨(TypeDesc.func #[184,77] #[] Bool.false),1,8,Value.nilFunc,none⟩),
 (214,⟨(TypeDesc.func #[4] #[77] Bool.false),1,8,Value.nilFunc,none⟩),
 (215,⟨(TypeDesc.int IntKind.u64),1,8,(Value.int IntKind.u64 (0:Int)),some (.int .u64)⟩),
 (216,⟨(TypeDesc.func #[3] #[165] Bool.false),1,8,Value.nilFunc,none⟩),
 (217,⟨(TypeDesc.func #[] #[196] Bool.false),1,8,Value.nilFunc,none⟩),
 (218,⟨(TypeDesc.func #[67,3,219,133] #[3] Bool.false),1,8,Value.nilFunc,none⟩),
 (219,⟨(TypeDesc.pointer 3),1,8,(Value.pointer Option.none),none⟩),
 (220,⟨(TypeDesc.func #[67,3,3,3,219,133] #[3] Bool.false),1,8,Value.nilFunc,none⟩),
 (221,⟨(TypeDesc.func #[67] #[4] Bool.true),1,8,Value.nilFunc,none⟩),
 (222,⟨(TypeDesc.func #[39,3] #[3] Bool.false),1,8,Value.nilFunc,none⟩),
 (223,⟨(TypeDesc.array 2 3),2,16,(Value.agg #[zI,zI]),some Dm⟩),
 (224,⟨(TypeDesc.func #[3] #[223] Bool.false),1,8,Value.nilFunc,none⟩),
 (225,⟨(TypeDesc.func #[205] #[205,29] Bool.false),1,8,Value.nilFunc,none⟩),
 (226,⟨(TypeDesc.func #[178,178] #[67] Bool.false),1,8,Value.nilFunc,none⟩),
 (227,⟨(TypeDesc.func #[178,178] #[3] Bool.false),1,8,Value.nilFunc,none⟩),
 (228,⟨(TypeDesc.pointer 81),1,8,(Value.pointer Option.none),none⟩),
 (229,⟨(TypeDesc.func #[230,21,21] #[4] Bool.false),1,8,Value.nilFunc,none⟩),
 (230,⟨(TypeDesc.pointer 21),1,8,(Value.pointer Option.none),none⟩),
 (231,⟨(TypeDesc.func #[232] #[] Bool.false),1,8,Value.nilFunc,none⟩),
 (232,⟨TypeDesc.unsafePointer,1,8,(Value.pointer Option.none),none⟩),
 (233,⟨(TypeDesc.func #[230,21] #[21] Bool.false),1,8,Value.nilFunc,none⟩),
 (234,⟨(TypeDesc.func #[21] #[] Bool.false),1,8,Value.nilFunc,none⟩),
 (235,⟨(TypeDesc.pointer 215),1,8,(Value.pointer Option.none),none⟩),
 (236,⟨(TypeDesc.func #[67,3,3,219,133] #[3,3] Bool.false),1,8,Value.nilFunc,none⟩),
 (237,⟨(TypeDesc.func #[205] #[4] Bool.false),1,8,Value.nilFunc,none⟩),
 (238,⟨(TypeDesc.func #[178,3] #[3] Bool.false),1,8,Value.nilFunc,none⟩),
 (239,⟨(TypeDesc.func #[9] #[] Bool.false),1,8,Value.nilFunc,none⟩),
 (240,⟨(TypeDesc.func #[184,4,3] #[] Bool.false),1,8,Value.nilFunc,none⟩),
 (241,⟨(TypeDesc.func #[] #[9] Bool.false),1,8,Value.nilFunc,none⟩),
 (247,⟨(TypeDesc.func #[] #[3] Bool.false),1,8,Value.nilFunc,none⟩),
 (248,⟨(TypeDesc.int IntKind.u8),1,1,(Value.int IntKind.u8 (0:Int)),some (.int .u8)⟩),
 (249,⟨(TypeDesc.int IntKind.u8),1,1,(Value.int IntKind.u8 (0:Int)),some (.int .u8)⟩),
 (250,⟨(TypeDesc.func #[232,232] #[4] Bool.false),1,8,Value.nilFunc,none⟩),
 (251,⟨(TypeDesc.pointer 5),1,8,(Value.pointer Option.none),none⟩),
 (252,⟨(TypeDesc.int IntKind.i32),1,4,(Value.int IntKind.i32 (0:Int)),some (.int .i32)⟩),
 (253,⟨(TypeDesc.int IntKind.i32),1,4,(Value.int IntKind.i32 (0:Int)),some (.int .i32)⟩)]
set_option maxRecDepth 100000 in
theorem aC:aO Tryz.prog tt:=
 aO.cons (by kernel_rfl) (by decide) (by kernel_rfl) (by kernel_rfl) (
 aO.cons (by kernel_rfl) (by decide) (by kernel_rfl) (by kernel_rfl) (
 aO.cons (by kernel_rfl) (by decide) (by kernel_rfl) (by kernel_rfl) (
 aO.cons (by kernel_rfl) (by decide) (by kernel_rfl) (by kernel_rfl) (
 aO.cons (by kernel_rfl) (by decide) (by kernel_rfl) (by kernel_rfl) (
 aO.cons (by kernel_rfl) (by decide) (by kernel_rfl) (by kernel_rfl) (
 aO.cons (by kernel_rfl) (by decide) (by kernel_rfl) (by kernel_rfl) (
 aO.cons (by kernel_rfl) (by decide) (by kernel_rfl) (by kernel_rfl) (
 aO.cons (by kernel_rfl) (by decide) (by kernel_rfl) (by kernel_rfl) (
 aO.cons (by kernel_rfl) (by decide) (by kernel_rfl) (by kernel_rfl) (
 aO.cons (by kernel_rfl) (by decide) (by kernel_rfl) (by kernel_rfl) (
 aO.cons (by kernel_rfl) (by decide) (by kernel_rfl) (by kernel_rfl) (
 aO.cons (by kernel_rfl) (by decide) (by kernel_rfl) (by kernel_rfl) (
 aO.cons (by kernel_rfl) (by decide) (by kernel_rfl) (by kernel_rfl) (
 aO.cons (by kernel_rfl) (by decide) (by kernel_rfl) (by kernel_rfl) (
 aO.cons (by kernel_rfl) (by decide) (by kernel_rfl) (by kernel_rfl) (
 aO.cons (by kernel_rfl) (by decide) (by kernel_rfl) (by kernel_rfl) (
 aO.cons (by kernel_rfl) (by decide) (by kernel_rfl) (by kernel_rfl) (
 aO.cons (by kernel_rfl) (by decide) (by kernel_rfl) (by kernel_rfl) (
 aO.cons (by kernel_rfl) (by decide) (by kernel_rfl) (by kernel_rfl) (
 aO.cons (by kernel_rfl) (by decide) (by kernel_rfl) (by kernel_rfl) (
 aO.cons (by kernel_rfl) (by decide) (by kernel_rfl) (by kernel_rfl) (
 aO.cons (by kernel_rfl) (by decide) (by kernel_rfl) (by kernel_rfl) (
 aO.cons (by kernel_rfl) (by decide) (by kernel_rfl) (by kernel_rfl) (
 aO.cons (by kernel_rfl) (by decide) (by kernel_rfl) (by kernel_rfl) (
 aO.cons (by kernel_rfl) (by decide) (by kernel_rfl) (by kernel_rfl) (
 aO.cons (by kernel_rfl) (by decide) (by kernel_rfl) (by kernel_rfl) (
 aO.cons (by kernel_rfl) (by decide) (by kernel_rfl) (by kernel_rfl) (
 aO.cons (by kernel_rfl) (by decide) (by kernel_rfl) (by kernel_rfl) (
 aO.cons (by kernel_rfl) (by decide) (by kernel_rfl) (by kernel_rfl) (
 aO.cons (by kernel_rfl) (by decide) (by kernel_rfl) (by kernel_rfl) (
 aO.cons (by kernel_rfl) (by decide) (by kernel_rfl) (by kernel_rfl) (
 aO.cons (by kernel_rfl) (by decide) (by kernel_rfl) (by kernel_rfl) (
 aO.cons (by kernel_rfl) (by decide) (by kernel_rfl) (by kernel_rfl) (
 aO.cons (by kernel_rfl) (by decide) (by kernel_rfl) (by kernel_rfl) (
 aO.cons (by kernel_rfl) (by decide) (by kernel_rfl) (by kernel_rfl) (
 aO.cons (by kernel_rfl) (by decide) (by kernel_rfl) (by kernel_rfl) (
 aO.cons (by kernel_rfl) (by decide) (by kernel_rfl) (by kernel_rfl) (
 aO.cons (by kernel_rfl) (by decide) (by kernel_rfl) (by kernel_rfl) (
 aO.cons (by kernel_rfl) (by decide) (by kernel_rfl) (by kernel_rfl) (
 aO.cons (by kernel_rfl) (by decide) (by kernel_rfl) (by kernel_rfl) (
 aO.cons (by kernel_rfl) (by decide) (by kernel_rfl) (by kernel_rfl) (
 aO.cons (by kernel_rfl) (by decide) (by kernel_rfl) (by kernel_rfl) (
 aO.cons (by kernel_rfl) (by decide) (by kernel_rfl) (by kernel_rfl) (
 aO.cons (by kernel_rfl) (by decide) (by kernel_rfl) (by kernel_rfl) (
 aO.cons (by kernel_rfl) (by decide) (by kernel_rfl) (by kernel_rfl) (
 aO.cons (by kernel_rfl) (by decide) (by kernel_rfl) (by kernel_rfl) (
 aO.cons (by kernel_rfl) (by decide) (by kernel_rfl) (by kernel_rfl) (
 aO.cons (by kernel_rfl) (by decide) (by kernel_rfl) (by kernel_rfl) (
 aO.cons (by kernel_rfl) (by decide) (by kernel_rfl) (by kernel_rfl) (
 aO.cons (by kernel_rfl) (by decide) (by kernel_rfl) (by kernel_rfl) (
 aO.cons (by kernel_rfl) (by decide) (by kernel_rfl) (by kernel_rfl) (
 aO.cons (by kernel_rfl) (by decide) (by kernel_rfl) (by kernel_rfl) (
 aO.cons (by kernel_rfl) (by decide) (by kernel_rfl) (by kernel_rfl) (
 aO.cons (by kernel_rfl) (by decide) (by kernel_rfl) (by kernel_rfl) (
 aO.cons (by kernel_rfl) (by decide) (by kernel_rfl) (by kernel_rfl) (
 aO.cons (by kernel_rfl) (by decide) (by kernel_rfl) (by kernel_rfl) (
 aO.cons (by kernel_rfl) (by decide) (by kernel_rfl) (by kernel_rfl) (
 aO.cons (by kernel_rfl) (by decide) (by kernel_rfl) (by kernel_rfl) (
 aO.cons (by kernel_rfl) (by decide) (by kernel_rfl) (by kernel_rfl) (
 aO.cons (by kernel_rfl) (by decide) (by kernel_rfl) (by kernel_rfl) (
 aO.cons (by kernel_rfl) (by decide) (by kernel_rfl) (by kernel_rfl) (
 aO.cons (by kernel_rfl) (by decide) (by kernel_rfl) (by kernel_rfl) (
 aO.cons (by kernel_rfl) (by decide) (by kernel_rfl) (by kernel_rfl) (
 aO.cons (by kernel_rfl) (by decide) (by kernel_rfl) (by kernel_rfl) (
 aO.cons (by kernel_rfl) (by decide) (by kernel_rfl) (by kernel_rfl) (
 aO.cons (by kernel_rfl) (by decide) (by kernel_rfl) (by kernel_rfl) (
 aO.cons (by kernel_rfl) (by decide) (by kernel_rfl) (by kernel_rfl) (
 aO.cons (by kernel_rfl) (by decide) (by kernel_rfl) (by kernel_rfl) (
 aO.cons (by kernel_rfl) (by decide) (by kernel_rfl) (by kernel_rfl) (
 aO.cons (by kernel_rfl) (by decide) (by kernel_rfl) (by kernel_rfl) (
 aO.cons (by kernel_rfl) (by decide) (by kernel_rfl) (by kernel_rfl) (
 aO.cons (by kernel_rfl) (by decide) (by kernel_rfl) (by kernel_rfl) (
 aO.cons (by kernel_rfl) (by decide) (by kernel_rfl) (by kernel_rfl) (
 aO.cons (by kernel_rfl) (by decide) (by kernel_rfl) (by kernel_rfl) (
 aO.cons (by kernel_rfl) (by decide) (by kernel_rfl) (by kernel_rfl) (
 aO.cons (by kernel_rfl) (by decide) (by kernel_rfl) (by kernel_rfl) (
 aO.cons (by kernel_rfl) (by decide) (by kernel_rfl) (by kernel_rfl) (
 aO.cons (by kernel_rfl) (by decide) (by kernel_rfl) (by kernel_rfl) (
 aO.cons (by kernel_rfl) (by decide) (by kernel_rfl) (by kernel_rfl) (
 aO.cons (by kernel_rfl) (by decide) (by kernel_rfl) (by kernel_rfl) (
 aO.cons (by kernel_rfl) (by decide) (by kernel_rfl) (by kernel_rfl) (
 aO.cons (by kernel_rfl) (by decide) (by kernel_rfl) (by kernel_rfl) (
 aO.cons (by kernel_rfl) (by decide) (by kernel_rfl) (by kernel_rfl) (
 aO.cons (by kernel_rfl) (by decide) (by kernel_rfl) (by kernel_rfl) (
 aO.cons (by kernel_rfl) (by decide) (by kernel_rfl) (by kernel_rfl) (
 aO.cons (by kernel_rfl) (by decide) (by kernel_rfl) (by kernel_rfl) (
 aO.cons (by kernel_rfl) (by decide) (by kernel_rfl) (by kernel_rfl) (
 aO.cons (by kernel_rfl) (by decide) (by kernel_rfl) (by kernel_rfl) (
 aO.cons (by kernel_rfl) (by decide) (by kernel_rfl) (by kernel_rfl) (
 aO.cons (by kernel_rfl) (by decide) (by kernel_rfl) (by kernel_rfl) (
 aO.cons (by kernel_rfl) (by decide) (by kernel_rfl) (by kernel_rfl) (
 aO.cons (by kernel_rfl) (by decide) (by kernel_rfl) (by kernel_rfl) (
 aO.cons (by kernel_rfl) (by decide) (by kernel_rfl) (by kernel_rfl) (
 aO.cons (by kernel_rfl) (by decide) (by kernel_rfl) (by kernel_rfl) (
 aO.cons (by kernel_rfl) (by decide) (by kernel_rfl) (by kernel_rfl) (
 aO.cons (by kernel_rfl) (by decide) (by kernel_rfl) (by kernel_rfl) (
 aO.cons (by kernel_rfl) (by decide) (by kernel_rfl) (by kernel_rfl) (
 aO.cons (by kernel_rfl) (by decide) (by kernel_rfl) (by kernel_rfl) (
 aO.cons (by kernel_rfl) (by decide) (by kernel_rfl) (by kernel_rfl) (
 aO.cons (by kernel_rfl) (by decide) (by kernel_rfl) (by kernel_rfl) (
 aO.cons (by kernel_rfl) (by decide) (by kernel_rfl) (by kernel_rfl) (
 aO.cons (by kernel_rfl) (by decide) (by kernel_rfl) (by kernel_rfl) (
 aO.cons (by kernel_rfl) (by decide) (by kernel_rfl) (by kernel_rfl) (
 aO.cons (by kernel_rfl) (by decide) (by kernel_rfl) (by kernel_rfl) (
 aO.cons (by kernel_rfl) (by decide) (by kernel_rfl) (by kernel_rfl) (
 aO.cons (by kernel_rfl) (by decide) (by kernel_rfl) (by kernel_rfl) (
 aO.cons (by kernel_rfl) (by decide) (by kernel_rfl) (by kernel_rfl) (
 aO.cons (by kernel_rfl) (by decide) (by kernel_rfl) (by kernel_rfl) (
 aO.cons (by kernel_rfl) (by decide) (by kernel_rfl) (by kernel_rfl) (
 aO.cons (by kernel_rfl) (by decide) (by kernel_rfl) (by kernel_rfl) (
 aO.cons (by kernel_rfl) (by decide) (by kernel_rfl) (by kernel_rfl) (
 aO.cons (by kernel_rfl) (by decide) (by kernel_rfl) (by kernel_rfl) (
 aO.cons (by kernel_rfl) (by decide) (by kernel_rfl) (by kernel_rfl) (
 aO.cons (by kernel_rfl) (by decide) (by kernel_rfl) (by kernel_rfl) (
 aO.cons (by kernel_rfl) (by decide) (by kernel_rfl) (by kernel_rfl) (
 aO.cons (by kernel_rfl) (by decide) (by kernel_rfl) (by kernel_rfl) (
 aO.cons (by kernel_rfl) (by decide) (by kernel_rfl) (by kernel_rfl) (
 aO.cons (by kernel_rfl) (by decide) (by kernel_rfl) (by kernel_rfl) (
 aO.cons (by kernel_rfl) (by decide) (by kernel_rfl) (by kernel_rfl) (
 aO.cons (by kernel_rfl) (by decide) (by kernel_rfl) (by kernel_rfl) (
 aO.cons (by kernel_rfl) (by decide) (by kernel_rfl) (by kernel_rfl) (
 aO.cons (by kernel_rfl) (by decide) (by kernel_rfl) (by kernel_rfl) (
 aO.cons (by kernel_rfl) (by decide) (by kernel_rfl) (by kernel_rfl) (
 aO.cons (by kernel_rfl) (by decide) (by kernel_rfl) (by kernel_rfl) (
 aO.cons (by kernel_rfl) (by decide) (by kernel_rfl) (by kernel_rfl) (
 aO.cons (by kernel_rfl) (by decide) (by kernel_rfl) (by kernel_rfl) (
 aO.cons (by kernel_rfl) (by decide) (by kernel_rfl) (by kernel_rfl) (
 aO.cons (by kernel_rfl) (by decide) (by kernel_rfl) (by kernel_rfl) (
 aO.cons (by kernel_rfl) (by decide) (by kernel_rfl) (by kernel_rfl) (
 aO.cons (by kernel_rfl) (by decide) (by kernel_rfl) (by kernel_rfl) (
 aO.cons (by kernel_rfl) (by decide) (by kernel_rfl) (by kernel_rfl) (
 aO.cons (by kernel_rfl) (by decide) (by kernel_rfl) (by kernel_rfl) (
 aO.cons (by kernel_rfl) (by decide) (by kernel_rfl) (by kernel_rfl) (
 aO.cons (by kernel_rfl) (by decide) (by kernel_rfl) (by kernel_rfl) (
 aO.cons (by kernel_rfl) (by decide) (by kernel_rfl) (by kernel_rfl) (
 aO.cons (by kernel_rfl) (by decide) (by kernel_rfl) (by kernel_rfl) (
 aO.cons (by kernel_rfl) (by decide) (by kernel_rfl) (by kernel_rfl) (
 aO.cons (by kernel_rfl) (by decide) (by kernel_rfl) (by kernel_rfl) (
 aO.cons (by kernel_rfl) (by decide) (by kernel_rfl) (by kernel_rfl) (
 aO.cons (by kernel_rfl) (by decide) (by kernel_rfl) (by kernel_rfl) (
 aO.cons (by kernel_rfl) (by decide) (by kernel_rfl) (by kernel_rfl) (
 aO.cons (by kernel_rfl) (by decide) (by kernel_rfl) (by kernel_rfl) (
 aO.cons (by kernel_rfl) (by decide) (by kernel_rfl) (by kernel_rfl) (
 aO.cons (by kernel_rfl) (by decide) (by kernel_rfl) (by kernel_rfl) (
 aO.cons (by kernel_rfl) (by decide) (by kernel_rfl) (by kernel_rfl) (
 aO.cons (by kernel_rfl) (by decide) (by kernel_rfl) (by kernel_rfl) (
 aO.cons (by kernel_rfl) (by decide) (by kernel_rfl) (by kernel_rfl) (
 aO.cons (by kernel_rfl) (by decide) (by kernel_rfl) (by kernel_rfl) (
 aO.cons (by kernel_rfl) (by decide) (by kernel_rfl) (by kernel_rfl) (
 aO.cons (by kernel_rfl) (by decide) (by kernel_rfl) (by kernel_rfl) (
 aO.cons (by kernel_rfl) (by decide) (by kernel_rfl) (by kernel_rfl) (
 aO.cons (by kernel_rfl) (by decide) (by kernel_rfl) (by kernel_rfl) (
 aO.cons (by kernel_rfl) (by decide) (by kernel_rfl) (by kernel_rfl) (
 aO.cons (by kernel_rfl) (by decide) (by kernel_rfl) (by kernel_rfl) (
 aO.cons (by kernel_rfl) (by decide) (by kernel_rfl) (by kernel_rfl) (
 aO.cons (by kernel_rfl) (by decide) (by kernel_rfl) (by kernel_rfl) (
 aO.cons (by kernel_rfl) (by decide) (by kernel_rfl) (by kernel_rfl) (
 aO.cons (by kernel_rfl) (by decide) (by kernel_rfl) (by kernel_rfl) (
 aO.cons (by kernel_rfl) (by decide) (by kernel_rfl) (by kernel_rfl) (
 aO.cons (by kernel_rfl) (by decide) (by kernel_rfl) (by kernel_rfl) (
 aO.cons (by kernel_rfl) (by decide) (by kernel_rfl) (by kernel_rfl) (
 aO.cons (by kernel_rfl) (by decide) (by kernel_rfl) (by kernel_rfl) (
 aO.cons (by kernel_rfl) (by decide) (by kernel_rfl) (by kernel_rfl) (
 aO.cons (by kernel_rfl) (by decide) (by kernel_rfl) (by kernel_rfl) (
 aO.cons (by kernel_rfl) (by decide) (by kernel_rfl) (by kernel_rfl) (
 aO.cons (by kernel_rfl) (by decide) (by kernel_rfl) (by kernel_rfl) (
 aO.cons (by kernel_rfl) (by decide) (by kernel_rfl) (by kernel_rfl) (
 aO.cons (by kernel_rfl) (by decide) (by kernel_rfl) (by kernel_rfl) (
 aO.cons (by kernel_rfl) (by decide) (by kernel_rfl) (by kernel_rfl) (
 aO.cons (by kernel_rfl) (by decide) (by kernel_rfl) (by kernel_rfl) (
 aO.cons (by kernel_rfl) (by decide) (by kernel_rfl) (by kernel_rfl) (
 aO.cons (by kernel_rfl) (by decide) (by kernel_rfl) (by kernel_rfl) (
 aO.cons (by kernel_rfl) (by decide) (by kernel_rfl) (by kernel_rfl) (
 aO.cons (by kernel_rfl) (by decide) (by kernel_rfl) (by kernel_rfl) (
 aO.cons (by kernel_rfl) (by decide) (by kernel_rfl) (by kernel_rfl) (
 aO.cons (by kernel_rfl) (by decide) (by kernel_rfl) (by kernel_rfl) (
 aO.cons (by kernel_rfl) (by decide) (by kernel_rfl) (by kernel_rfl) (
 aO.cons (by kernel_rfl) (by decide) (by kernel_rfl) (by kernel_rfl) (
 aO.cons (by kernel_rfl) (by decide) (by kernel_rfl) (by kernel_rfl) (
 aO.cons (by kernel_rfl) (by decide) (by kernel_rfl) (by kernel_rfl) (
 aO.cons (by kernel_rfl) (by decide) (by kernel_rfl) (by kernel_rfl) (
 aO.cons (by kernel_rfl) (by decide) (by kernel_rfl) (by kernel_rfl) (
 aO.cons (by kernel_rfl) (by decide) (by kernel_rfl) (by kernel_rfl) (
 aO.cons (by kernel_rfl) (by decide) (by kernel_rfl) (by kernel_rfl) (
 aO.cons (by kernel_rfl) (by decide) (by kernel_rfl) (by kernel_rfl) (
 aO.cons (by kernel_rfl) (by decide) (by kernel_rfl) (by kernel_rfl) (
 aO.cons (by kernel_rfl) (by decide) (by kernel_rfl) (by kernel_rfl) (
 aO.cons (by kernel_rfl) (by decide) (by kernel_rfl) (by kernel_rfl) (
 aO.cons (by kernel_rfl) (by decide) (by kernel_rfl) (by kernel_rfl) (
 aO.cons (by kernel_rfl) (by decide) (by kernel_rfl) (by kernel_rfl) (
 aO.cons (by kernel_rfl) (by decide) (by kernel_rfl) (by kernel_rfl) (
 aO.cons (by kernel_rfl) (by decide) (by kernel_rfl) (by kernel_rfl) (
 aO.cons (by kernel_rfl) (by decide) (by kernel_rfl) (by kernel_rfl) (
 aO.cons (by kernel_rfl) (by decide) (by kernel_rfl) (by kernel_rfl) (
 aO.cons (by kernel_rfl) (by decide) (by kernel_rfl) (by kernel_rfl) (
 aO.cons (by kernel_rfl) (by decide) (by kernel_rfl) (by kernel_rfl) (
 aO.cons (by kernel_rfl) (by decide) (by kernel_rfl) (by kernel_rfl) (
 aO.cons (by kernel_rfl) (by decide) (by kernel_rfl) (by kernel_rfl) (
 aO.cons (by kernel_rfl) (by decide) (by kernel_rfl) (by kernel_rfl) (
 aO.cons (by kernel_rfl) (by decide) (by kernel_rfl) (by kernel_rfl) (
 aO.cons (by kernel_rfl) (by decide) (by kernel_rfl) (by kernel_rfl) (
 aO.cons (by kernel_rfl) (by decide) (by kernel_rfl) (by kernel_rfl) (
 aO.cons (by kernel_rfl) (by decide) (by kernel_rfl) (by kernel_rfl) (
 aO.cons (by kernel_rfl) (by decide) (by kernel_rfl) (by kernel_rfl) (
 aO.cons (by kernel_rfl) (by decide) (by kernel_rfl) (by kernel_rfl) (
 aO.cons (by kernel_rfl) (by decide) (by kernel_rfl) (by kernel_rfl) (
 aO.cons (by kernel_rfl) (by decide) (by kernel_rfl) (by kernel_rfl) (
 aO.cons (by kernel_rfl) (by decide) (by kernel_rfl) (by kernel_rfl) (
 aO.cons (by kernel_rfl) (by decide) (by kernel_rfl) (by kernel_rfl) (
 aO.cons (by kernel_rfl) (by decide) (by kernel_rfl) (by kernel_rfl) (
 aO.cons (by kernel_rfl) (by decide) (by kernel_rfl) (by kernel_rfl) (
 aO.cons (by kernel_rfl) (by decide) (by kernel_rfl) (by kernel_rfl) (
 aO.cons (by kernel_rfl) (by decide) (by kernel_rfl) (by kernel_rfl) (
 aO.cons (by kernel_rfl) (by decide) (by kernel_rfl) (by kernel_rfl) (
 aO.cons (by kernel_rfl) (by decide) (by kernel_rfl) (by kernel_rfl) (
 aO.cons (by kernel_rfl) (by decide) (by kernel_rfl) (by kernel_rfl) (
 aO.cons (by kernel_rfl) (by decide) (by kernel_rfl) (by kernel_rfl) (
 aO.nil))))))))))))))))))))))))))))))))))))))))))))))))))))))))))))))))))))))))))))))))))))))))))))))))))))))))))))))))))))))))))))))))))))))))))))))))))))))))))))))))))))))))))))))))))))))))))))))))))))))))))))))))))))))))))
theorem mixed:Tryz.prog.follows .mixedOrders=true:=by kernel_rfl
end Go.Proofs.YtlkgabjhkfhgaaaGreat
