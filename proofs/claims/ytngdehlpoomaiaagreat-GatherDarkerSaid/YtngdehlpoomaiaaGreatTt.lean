/- The types of this translation, as the evaluator wants them. -/
import Derived.Test.YtngdehlpoomaiaaGreatEvR
import Derived.Test.YtngdehlpoomaiaaGreatChecked
noncomputable section
set_option linter.unusedSectionVars false
set_option linter.unusedVariables false
set_option linter.unusedSimpArgs false
namespace Go.Proofs.YtngdehlpoomaiaaGreat
open Go Go.Ev Go.Proofs
abbrev z0:Int:=0
abbrev z1:Int:=1
abbrev tN (i:Int):Nat:=Int.toNat i
abbrev gI (l:List Int) (i:Int):Int:=List.getD l i.toNat (0:Int)
abbrev gT {α:Type} (l:List α) (i:Int) (d:α):α:=List.getD l i.toNat d
abbrev nL {α:Type} (l:List α):Int:=((List.length l:Nat):Int)
abbrev _root_.Go.Ev.Tr.oI1 {τ α:Type} {i:Bool} (j:Int) (l:List α) (t:Tr τ i):Tr τ true:= .oR j ((List.length l:Nat):Int) (.od (Int.toNat j<List.length l) t)
abbrev _root_.Go.Ev.Tr.nc {τ α:Type} {i:Bool} (j:Int) (l:List α) (t:Tr τ i):Tr τ true:= .oR j ((List.length l:Nat):Int) (.od (Int.toNat j<List.length l) (.od (Int.toNat j<List.length l) t))
abbrev _root_.Go.Ev.Tr.Xm {τ α:Type} {i:Bool} (j:Int) (l:List α) (t:Tr τ i):Tr τ true:= .oR j ((List.length l:Nat):Int) (.od (Int.toNat j<List.length l) (.od (Int.toNat j<List.length l) (.od (Int.toNat j<List.length l) t)))
abbrev w1 (i:Int):Int:=au (i+(1:Int))
abbrev wm (i:Int):Int:=au (i- (1:Int))
abbrev zI:Value:=Value.int IntKind.i64 0
def tt:List (Nat×TI):=
 [(1,⟨(TypeDesc.func #[] #[] Bool.false),1,8,Value.nilFunc,none⟩),
 (2,⟨(TypeDesc.int IntKind.i64),1,8,zI,some yi⟩),
 (3,⟨(TypeDesc.int IntKind.i64),1,8,zI,some yi⟩),
 (4,⟨TypeDesc.bool,1,1,(Value.bool Bool.false),some .bool⟩),
 (5,⟨(TypeDesc.int IntKind.u8),1,1,(Value.int IntKind.u8 (0:Int)),some (.int .u8)⟩),
 (6,⟨(TypeDesc.int IntKind.u8),1,1,(Value.int IntKind.u8 (0:Int)),some (.int .u8)⟩),
 (7,⟨(TypeDesc.struct #[(Field.mk "x" 2 0 Bool.false "" "runtime" 0),(Field.mk "y" 3 1 Bool.false "" "runtime" 8),(Field.mk "signed" 4 2 Bool.false "" "runtime" 16),(Field.mk "code" 6 3 Bool.false "" "runtime" 17)]),4,24,(Value.agg #[zI,zI,(Value.bool Bool.false),(Value.int IntKind.u8 (0:Int))]),some (.prod yi (.prod yi (.prod .bool (.int .u8))))⟩),
 (8,⟨(TypeDesc.struct #[(Field.mk "x" 2 0 Bool.false "" "runtime" 0),(Field.mk "y" 3 1 Bool.false "" "runtime" 8),(Field.mk "signed" 4 2 Bool.false "" "runtime" 16),(Field.mk "code" 6 3 Bool.false "" "runtime" 17)]),4,24,(Value.agg #[zI,zI,(Value.bool Bool.false),(Value.int IntKind.u8 (0:Int))]),some (.prod yi (.prod yi (.prod .bool (.int .u8))))⟩),
 (9,⟨TypeDesc.string,1,16,(Value.string (ByteArray.mk #[])),some .str⟩),
 (10,⟨TypeDesc.string,1,16,(Value.string (ByteArray.mk #[])),some .str⟩),
 (11,⟨TypeDesc.string,1,16,(Value.string (ByteArray.mk #[])),some .str⟩),
 (12,⟨(TypeDesc.int IntKind.u64),1,8,(Value.int IntKind.u64 (0:Int)),some (.int .u64)⟩),
 (15,⟨(TypeDesc.pointer 289),1,8,(Value.pointer Option.none),none⟩),
 (16,⟨(TypeDesc.pointer 292),1,8,(Value.pointer Option.none),none⟩),
 (17,⟨(TypeDesc.pointer 300),1,8,(Value.pointer Option.none),none⟩),
 (21,⟨(TypeDesc.int IntKind.i32),1,4,(Value.int IntKind.i32 (0:Int)),some (.int .i32)⟩),
 (22,⟨(TypeDesc.slice 44),1,24,(Value.slice Option.none 0 0),some (.sl ff)⟩),
 (23,⟨(TypeDesc.slice 41),1,24,(Value.slice Option.none 0 0),some (.sl (.prod yi (.prod aO (.prod aO gZ))))⟩),
 (24,⟨(TypeDesc.struct #[(Field.mk "Samples" 3 0 false "" "" 0),(Field.mk "Length" 3 1 false "" "" 8),(Field.mk "Bias" 3 2 false "" "" 16),(Field.mk "Ambient" 3 3 false "" "" 24),(Field.mk "Lights" 23 4 false "" "" 32)]),5,56,(Value.agg #[zI,zI,zI,zI,(Value.slice Option.none 0 0)]),some (.prod yi (.prod yi (.prod yi (.prod yi (.sl (.prod yi (.prod aO (.prod aO gZ))))))))⟩),
 (25,⟨(TypeDesc.struct #[(Field.mk "Samples" 3 0 false "" "" 0),(Field.mk "Length" 3 1 false "" "" 8),(Field.mk "Bias" 3 2 false "" "" 16),(Field.mk "Ambient" 3 3 false "" "" 24),(Field.mk "Lights" 23 4 false "" "" 32)]),5,56,(Value.agg #[zI,zI,zI,zI,(Value.slice Option.none 0 0)]),some (.prod yi (.prod yi (.prod yi (.prod yi (.sl (.prod yi (.prod aO (.prod aO gZ))))))))⟩),
 (26,⟨(TypeDesc.struct #[(Field.mk "X" 3 0 false "" "" 0),(Field.mk "Y" 3 1 false "" "" 8),(Field.mk "Z" 3 2 false "" "" 16)]),3,24,(Value.agg #[zI,zI,zI]),some aO⟩),
 (27,⟨(TypeDesc.struct #[(Field.mk "X" 3 0 false "" "" 0),(Field.mk "Y" 3 1 false "" "" 8),(Field.mk "Z" 3 2 false "" "" 16)]),3,24,(Value.agg #[zI,zI,zI]),some aO⟩),
 (28,⟨(TypeDesc.func #[22,25] #[4] Bool.false),1,8,Value.nilFunc,none⟩),
 (29,⟨(TypeDesc.pointer 80),1,8,(Value.pointer Option.none),none⟩),
 (30,⟨(TypeDesc.int IntKind.i64),1,8,zI,some yi⟩),
 (32,⟨(TypeDesc.func #[22] #[29,30] Bool.false),1,8,Value.nilFunc,none⟩),
 (33,⟨(TypeDesc.func #[] #[4] Bool.false),1,8,Value.nilFunc,none⟩),
 (35,⟨(TypeDesc.func #[29,25,27,27] #[3,30] Bool.false),1,8,Value.nilFunc,none⟩),
 (37,⟨(TypeDesc.func #[25,27,27] #[27,30] Bool.false),1,8,Value.nilFunc,none⟩),
 (38,⟨(TypeDesc.slice 3),1,24,(Value.slice Option.none 0 0),some (.sl yi)⟩),
 (39,⟨(TypeDesc.func #[41,27,27] #[3,30] Bool.false),1,8,Value.nilFunc,none⟩),
 (40,⟨(TypeDesc.struct #[(Field.mk "Kind" 3 0 false "" "" 0),(Field.mk "At" 27 1 false "" "" 8),(Field.mk "Dir" 27 4 false "" "" 32),(Field.mk "Power" 3 7 false "" "" 56),(Field.mk "Cone" 3 8 false "" "" 64)]),9,72,(Value.agg #[zI,zI,zI,zI,zI,zI,zI,zI,zI]),some (.prod yi (.prod aO (.prod aO gZ)))⟩),
 (41,⟨(TypeDesc.struct #[(Field.mk "Kind" 3 0 false "" "" 0),(Field.mk "At" 27 1 false "" "" 8),(Field.mk "Dir" 27 4 false "" "" 32),(Field.mk "Power" 3 7 false "" "" 56),(Field.mk "Cone" 3 8 false "" "" 64)]),9,72,(Value.agg #[zI,zI,zI,zI,zI,zI,zI,zI,zI]),some (.prod yi (.prod aO (.prod aO gZ)))⟩),
 (42,⟨(TypeDesc.func #[38] #[3] Bool.false),1,8,Value.nilFunc,none⟩),
 (43,⟨(TypeDesc.func #[22,25,27,27] #[4] Bool.false),1,8,Value.nilFunc,none⟩),
 (44,⟨(TypeDesc.array 3 27),9,72,(Value.agg #[zI,zI,zI,zI,zI,zI,zI,zI,zI]),some ff⟩),
 (45,⟨(TypeDesc.func #[22,44,25,27,27,3] #[4] Bool.false),1,8,Value.nilFunc,none⟩),
 (46,⟨(TypeDesc.slice 27),1,24,(Value.slice Option.none 0 0),some (.sl aO)⟩),
 (48,⟨(TypeDesc.func #[25,27,27] #[46,30] Bool.false),1,8,Value.nilFunc,none⟩),
 (49,⟨(TypeDesc.func #[25,27,27,3] #[4] Bool.false),1,8,Value.nilFunc,none⟩),
 (50,⟨(TypeDesc.slice 97),1,24,(Value.slice Option.none 0 0),some (.sl (.prod yi (.prod yi (.prod yi aO))))⟩),
 (52,⟨(TypeDesc.func #[22,25,50] #[38,30] Bool.false),1,8,Value.nilFunc,none⟩),
 (53,⟨(TypeDesc.func #[38,38] #[4] Bool.false),1,8,Value.nilFunc,none⟩),
 (54,⟨(TypeDesc.func #[22,25,50,50] #[4] Bool.false),1,8,Value.nilFunc,none⟩),
 (55,⟨(TypeDesc.func #[46,46] #[4] Bool.false),1,8,Value.nilFunc,none⟩),
 (56,⟨(TypeDesc.func #[25] #[4] Bool.false),1,8,Value.nilFunc,none⟩),
 (57,⟨(TypeDesc.func #[22,25,27,27] #[3,30] Bool.false),1,8,Value.nilFunc,none⟩),
 (58,⟨(TypeDesc.func #[22,25,27,27,50] #[4] Bool.false),1,8,Value.nilFunc,none⟩),
 (59,⟨(TypeDesc.func #[46] #[4] Bool.true),1,8,Value.nilFunc,none⟩),
 (60,⟨(TypeDesc.func #[44] #[4] Bool.false),1,8,Value.nilFunc,none⟩),
 (61,⟨(TypeDesc.func #[22,60] #[4] Bool.false),1,8,Value.nilFunc,none⟩),
 (62,⟨(TypeDesc.func #[22] #[22] Bool.false),1,8,Value.nilFunc,none⟩),
 (66,⟨(TypeDesc.int IntKind.u32),1,4,(Value.int IntKind.u32 (0:Int)),some (.int .u32)⟩),
 (67,⟨(TypeDesc.struct #[(Field.mk "_" 65 0 Bool.false "" "sync/atomic" 0),(Field.mk "v" 66 0 Bool.false "" "sync/atomic" 0)]),1,4,(Value.agg #[(Value.int IntKind.u32 (0:Int))]),none⟩),
 (68,⟨(TypeDesc.struct #[(Field.mk "_" 65 0 Bool.false "" "sync/atomic" 0),(Field.mk "v" 66 0 Bool.false "" "sync/atomic" 0)]),1,4,(Value.agg #[(Value.int IntKind.u32 (0:Int))]),none⟩),
 (69,⟨(TypeDesc.struct #[(Field.mk "state" 21 0 Bool.false "" "internal/sync" 0),(Field.mk "sema" 66 1 Bool.false "" "internal/sync" 4)]),2,8,(Value.agg #[(Value.int IntKind.i32 (0:Int)),(Value.int IntKind.u32 (0:Int))]),some (.prod (.int .i32) (.int .u32))⟩),
 (70,⟨(TypeDesc.struct #[(Field.mk "state" 21 0 Bool.false "" "internal/sync" 0),(Field.mk "sema" 66 1 Bool.false "" "internal/sync" 4)]),2,8,(Value.agg #[(Value.int IntKind.i32 (0:Int)),(Value.int IntKind.u32 (0:Int))]),some (.prod (.int .i32) (.int .u32))⟩),
 (71,⟨(TypeDesc.struct #[(Field.mk "_" 64 0 Bool.false "" "sync" 0),(Field.mk "mu" 70 0 Bool.false "" "sync" 0)]),2,8,(Value.agg #[(Value.int IntKind.i32 (0:Int)),(Value.int IntKind.u32 (0:Int))]),none⟩),
 (72,⟨(TypeDesc.struct #[(Field.mk "_" 64 0 Bool.false "" "sync" 0),(Field.mk "mu" 70 0 Bool.false "" "sync" 0)]),2,8,(Value.agg #[(Value.int IntKind.i32 (0:Int)),(Value.int IntKind.u32 (0:Int))]),none⟩),
 (73,⟨(TypeDesc.struct #[(Field.mk "_" 64 0 Bool.false "" "sync" 0),(Field.mk "done" 68 0 Bool.false "" "sync" 0),(Field.mk "m" 72 1 Bool.false "" "sync" 4)]),3,12,(Value.agg #[(Value.int IntKind.u32 (0:Int)),(Value.int IntKind.i32 (0:Int)),(Value.int IntKind.u32 (0:Int))]),none⟩),
 (74,⟨(TypeDesc.struct #[(Field.mk "_" 64 0 Bool.false "" "sync" 0),(Field.mk "done" 68 0 Bool.false "" "sync" 0),(Field.mk "m" 72 1 Bool.false "" "sync" 4)]),3,12,(Value.agg #[(Value.int IntKind.u32 (0:Int)),(Value.int IntKind.i32 (0:Int)),(Value.int IntKind.u32 (0:Int))]),none⟩),
 (75,⟨(TypeDesc.slice 196),1,24,(Value.slice Option.none 0 0),some (.sl (.prod (.prod aO aO) (.prod yi (.prod yi (.sl yi)))))⟩),
 (77,⟨(TypeDesc.struct #[(Field.mk "_" 65 0 Bool.false "" "sync/atomic" 0),(Field.mk "_" 76 0 Bool.false "" "sync/atomic" 0),(Field.mk "v" 2 0 Bool.false "" "sync/atomic" 0)]),1,8,(Value.agg #[zI]),none⟩),
 (78,⟨(TypeDesc.struct #[(Field.mk "_" 65 0 Bool.false "" "sync/atomic" 0),(Field.mk "_" 76 0 Bool.false "" "sync/atomic" 0),(Field.mk "v" 2 0 Bool.false "" "sync/atomic" 0)]),1,8,(Value.agg #[zI]),none⟩),
 (79,⟨(TypeDesc.struct #[(Field.mk "l" 22 0 Bool.false "" "limewash/ray" 0),(Field.mk "grown" 74 1 Bool.false "" "limewash/ray" 24),(Field.mk "t" 75 4 Bool.false "" "limewash/ray" 40),(Field.mk "ways" 78 5 Bool.false "" "limewash/ray" 64),(Field.mk "seen" 78 6 Bool.false "" "limewash/ray" 72)]),7,80,(Value.agg #[(Value.slice Option.none 0 0),(Value.int IntKind.u32 (0:Int)),(Value.int IntKind.i32 (0:Int)),(Value.int IntKind.u32 (0:Int)),(Value.slice Option.none 0 0),zI,zI]),none⟩),
 (80,⟨(TypeDesc.struct #[(Field.mk "l" 22 0 Bool.false "" "limewash/ray" 0),(Field.mk "grown" 74 1 Bool.false "" "limewash/ray" 24),(Field.mk "t" 75 4 Bool.false "" "limewash/ray" 40),(Field.mk "ways" 78 5 Bool.false "" "limewash/ray" 64),(Field.mk "seen" 78 6 Bool.false "" "limewash/ray" 72)]),7,80,(Value.agg #[(Value.slice Option.none 0 0),(Value.int IntKind.u32 (0:Int)),(Value.int IntKind.i32 (0:Int)),(Value.int IntKind.u32 (0:Int)),(Value.slice Option.none 0 0),zI,zI]),none⟩),
 (81,⟨(TypeDesc.func #[82,1] #[] Bool.false),1,8,Value.nilFunc,none⟩),
 (82,⟨(TypeDesc.pointer 30),1,8,(Value.pointer Option.none),none⟩),
 (83,⟨(TypeDesc.struct #[(Field.mk "Job" 25 0 Bool.true "" "" 0),(Field.mk "at" 27 5 Bool.false "" "limewash/gather" 56),(Field.mk "n" 27 8 Bool.false "" "limewash/gather" 80)]),11,104,(Value.agg #[zI,zI,zI,zI,(Value.slice Option.none 0 0),zI,zI,zI,zI,zI,zI]),some (.prod (.prod yi (.prod yi (.prod yi (.prod yi (.sl (.prod yi (.prod aO (.prod aO gZ)))))))) (.prod aO aO))⟩),
 (84,⟨(TypeDesc.struct #[(Field.mk "Job" 25 0 Bool.true "" "" 0),(Field.mk "at" 27 5 Bool.false "" "limewash/gather" 56),(Field.mk "n" 27 8 Bool.false "" "limewash/gather" 80)]),11,104,(Value.agg #[zI,zI,zI,zI,(Value.slice Option.none 0 0),zI,zI,zI,zI,zI,zI]),some (.prod (.prod yi (.prod yi (.prod yi (.prod yi (.sl (.prod yi (.prod aO (.prod aO gZ)))))))) (.prod aO aO))⟩),
 (85,⟨(TypeDesc.func #[25,27,27] #[84] Bool.false),1,8,Value.nilFunc,none⟩),
 (86,⟨(TypeDesc.struct #[(Field.mk "Caster" 29 0 Bool.true "" "" 0),(Field.mk "spot" 84 1 Bool.true "" "limewash/gather" 8)]),12,112,(Value.agg #[(Value.pointer Option.none),zI,zI,zI,zI,(Value.slice Option.none 0 0),zI,zI,zI,zI,zI,zI]),none⟩),
 (87,⟨(TypeDesc.struct #[(Field.mk "Caster" 29 0 Bool.true "" "" 0),(Field.mk "spot" 84 1 Bool.true "" "limewash/gather" 8)]),12,112,(Value.agg #[(Value.pointer Option.none),zI,zI,zI,zI,(Value.slice Option.none 0 0),zI,zI,zI,zI,zI,zI]),none⟩),
 (88,⟨(TypeDesc.func #[] #[3] Bool.false),1,8,Value.nilFunc,none⟩),
 (90,⟨(TypeDesc.func #[41,27] #[27,27,30] Bool.false),1,8,Value.nilFunc,none⟩),
 (91,⟨(TypeDesc.func #[27] #[27,30] Bool.false),1,8,Value.nilFunc,none⟩),
 (92,⟨(TypeDesc.func #[41,27] #[4] Bool.false),1,8,Value.nilFunc,none⟩),
 (93,⟨(TypeDesc.func #[27,27] #[3,30] Bool.false),1,8,Value.nilFunc,none⟩),
 (94,⟨(TypeDesc.func #[] #[46] Bool.false),1,8,Value.nilFunc,none⟩),
 (95,⟨(TypeDesc.func #[30] #[] Bool.false),1,8,Value.nilFunc,none⟩),
 (96,⟨(TypeDesc.struct #[(Field.mk "X" 3 0 false "" "" 0),(Field.mk "Y" 3 1 false "" "" 8),(Field.mk "Tri" 3 2 false "" "" 16),(Field.mk "At" 27 3 false "" "" 24)]),6,48,(Value.agg #[zI,zI,zI,zI,zI,zI]),some (.prod yi (.prod yi (.prod yi aO)))⟩),
 (97,⟨(TypeDesc.struct #[(Field.mk "X" 3 0 false "" "" 0),(Field.mk "Y" 3 1 false "" "" 8),(Field.mk "Tri" 3 2 false "" "" 16),(Field.mk "At" 27 3 false "" "" 24)]),6,48,(Value.agg #[zI,zI,zI,zI,zI,zI]),some (.prod yi (.prod yi (.prod yi aO)))⟩),
 (98,⟨(TypeDesc.func #[44] #[27] Bool.false),1,8,Value.nilFunc,none⟩),
 (99,⟨(TypeDesc.func #[3] #[4] Bool.false),1,8,Value.nilFunc,none⟩),
 (100,⟨(TypeDesc.func #[27,27,3] #[27] Bool.false),1,8,Value.nilFunc,none⟩),
 (101,⟨(TypeDesc.slice 106),1,24,(Value.slice Option.none 0 0),some (.sl gZ)⟩),
 (103,⟨(TypeDesc.func #[3] #[101,30] Bool.false),1,8,Value.nilFunc,none⟩),
 (104,⟨(TypeDesc.func #[27,106] #[27,30] Bool.false),1,8,Value.nilFunc,none⟩),
 (105,⟨(TypeDesc.struct #[(Field.mk "X" 3 0 false "" "" 0),(Field.mk "Y" 3 1 false "" "" 8)]),2,16,(Value.agg #[zI,zI]),some gZ⟩),
 (106,⟨(TypeDesc.struct #[(Field.mk "X" 3 0 false "" "" 0),(Field.mk "Y" 3 1 false "" "" 8)]),2,16,(Value.agg #[zI,zI]),some gZ⟩),
 (107,⟨(TypeDesc.func #[22] #[30] Bool.false),1,8,Value.nilFunc,none⟩),
 (108,⟨(TypeDesc.func #[3,3] #[4] Bool.false),1,8,Value.nilFunc,none⟩),
 (109,⟨(TypeDesc.func #[23] #[4] Bool.true),1,8,Value.nilFunc,none⟩),
 (110,⟨(TypeDesc.func #[23] #[4] Bool.false),1,8,Value.nilFunc,none⟩),
 (111,⟨(TypeDesc.func #[22,27,27] #[4] Bool.false),1,8,Value.nilFunc,none⟩),
 (112,⟨(TypeDesc.func #[3,38] #[4] Bool.true),1,8,Value.nilFunc,none⟩),
 (113,⟨(TypeDesc.func #[22,60] #[3] Bool.false),1,8,Value.nilFunc,none⟩),
 (115,⟨(TypeDesc.func #[27] #[4] Bool.false),1,8,Value.nilFunc,none⟩),
 (116,⟨(TypeDesc.func #[41] #[] Bool.false),1,8,Value.nilFunc,none⟩),
 (117,⟨(TypeDesc.func #[41] #[4] Bool.false),1,8,Value.nilFunc,none⟩),
 (118,⟨(TypeDesc.func #[121] #[27,27,30] Bool.false),1,8,Value.nilFunc,none⟩),
 (119,⟨(TypeDesc.func #[] #[27,27,30] Bool.false),1,8,Value.nilFunc,none⟩),
 (120,⟨(TypeDesc.struct #[(Field.mk "Light" 41 0 Bool.true "" "" 0),(Field.mk "p" 27 9 Bool.false "" "limewash/light" 72)]),12,96,(Value.agg #[zI,zI,zI,zI,zI,zI,zI,zI,zI,zI,zI,zI]),some (.prod (.prod yi (.prod aO (.prod aO gZ))) aO)⟩),
 (121,⟨(TypeDesc.struct #[(Field.mk "Light" 41 0 Bool.true "" "" 0),(Field.mk "p" 27 9 Bool.false "" "limewash/light" 72)]),12,96,(Value.agg #[zI,zI,zI,zI,zI,zI,zI,zI,zI,zI,zI,zI]),some (.prod (.prod yi (.prod aO (.prod aO gZ))) aO)⟩),
 (122,⟨(TypeDesc.array 4 118),4,32,(Value.agg #[Value.nilFunc,Value.nilFunc,Value.nilFunc,Value.nilFunc]),none⟩),
 (123,⟨(TypeDesc.func #[3] #[3,30] Bool.false),1,8,Value.nilFunc,none⟩),
 (124,⟨(TypeDesc.array 3 3),3,24,(Value.agg #[zI,zI,zI]),some aO⟩),
 (125,⟨(TypeDesc.array 3 3),3,24,(Value.agg #[zI,zI,zI]),some aO⟩),
 (126,⟨(TypeDesc.func #[27] #[125] Bool.false),1,8,Value.nilFunc,none⟩),
 (127,⟨(TypeDesc.func #[129] #[125] Bool.false),1,8,Value.nilFunc,none⟩),
 (128,⟨(TypeDesc.func #[3,3] #[3] Bool.false),1,8,Value.nilFunc,none⟩),
 (129,⟨(TypeDesc.func #[3] #[3] Bool.false),1,8,Value.nilFunc,none⟩),
 (130,⟨(TypeDesc.func #[] #[27] Bool.false),1,8,Value.nilFunc,none⟩),
 (131,⟨(TypeDesc.func #[27] #[27] Bool.false),1,8,Value.nilFunc,none⟩),
 (132,⟨(TypeDesc.func #[27,27,27] #[27,30] Bool.false),1,8,Value.nilFunc,none⟩),
 (134,⟨(TypeDesc.func #[3] #[106,30] Bool.false),1,8,Value.nilFunc,none⟩),
 (135,⟨(TypeDesc.func #[106] #[4] Bool.false),1,8,Value.nilFunc,none⟩),
 (137,⟨(TypeDesc.func #[3,3] #[3,3,30] Bool.false),1,8,Value.nilFunc,none⟩),
 (139,⟨(TypeDesc.func #[27] #[27,27,27,30] Bool.false),1,8,Value.nilFunc,none⟩),
 (140,⟨(TypeDesc.func #[46] #[4] Bool.false),1,8,Value.nilFunc,none⟩),
 (142,⟨(TypeDesc.func #[27,27,44] #[4,30] Bool.false),1,8,Value.nilFunc,none⟩),
 (143,⟨(TypeDesc.func #[27,27] #[4,30] Bool.false),1,8,Value.nilFunc,none⟩),
 (144,⟨(TypeDesc.func #[27] #[124] Bool.false),1,8,Value.nilFunc,none⟩),
 (145,⟨(TypeDesc.func #[3,99] #[3] Bool.false),1,8,Value.nilFunc,none⟩),
 (146,⟨(TypeDesc.struct #[(Field.mk "sought" 74 0 Bool.false "" "limewash/halton" 0),(Field.mk "l" 101 3 Bool.false "" "limewash/halton" 16)]),4,40,(Value.agg #[(Value.int IntKind.u32 (0:Int)),(Value.int IntKind.i32 (0:Int)),(Value.int IntKind.u32 (0:Int)),(Value.slice Option.none 0 0)]),none⟩),
 (147,⟨(TypeDesc.struct #[(Field.mk "sought" 74 0 Bool.false "" "limewash/halton" 0),(Field.mk "l" 101 3 Bool.false "" "limewash/halton" 16)]),4,40,(Value.agg #[(Value.int IntKind.u32 (0:Int)),(Value.int IntKind.i32 (0:Int)),(Value.int IntKind.u32 (0:Int)),(Value.slice Option.none 0 0)]),none⟩),
 (148,⟨(TypeDesc.func #[3] #[101] Bool.false),1,8,Value.nilFunc,none⟩),
 (149,⟨(TypeDesc.struct #[(Field.mk "t" 27 0 Bool.false "" "limewash/frame" 0),(Field.mk "b" 27 3 Bool.false "" "limewash/frame" 24)]),6,48,(Value.agg #[zI,zI,zI,zI,zI,zI]),some (.prod aO aO)⟩),
 (150,⟨(TypeDesc.struct #[(Field.mk "t" 27 0 Bool.false "" "limewash/frame" 0),(Field.mk "b" 27 3 Bool.false "" "limewash/frame" 24)]),6,48,(Value.agg #[zI,zI,zI,zI,zI,zI]),some (.prod aO aO)⟩),
 (151,⟨(TypeDesc.struct #[(Field.mk "cross" 150 0 Bool.true "" "limewash/frame" 0),(Field.mk "u" 27 6 Bool.false "" "limewash/frame" 48)]),9,72,(Value.agg #[zI,zI,zI,zI,zI,zI,zI,zI,zI]),some (.prod (.prod aO aO) aO)⟩),
 (152,⟨(TypeDesc.struct #[(Field.mk "cross" 150 0 Bool.true "" "limewash/frame" 0),(Field.mk "u" 27 6 Bool.false "" "limewash/frame" 48)]),9,72,(Value.agg #[zI,zI,zI,zI,zI,zI,zI,zI,zI]),some (.prod (.prod aO aO) aO)⟩),
 (154,⟨(TypeDesc.func #[27] #[152,30] Bool.false),1,8,Value.nilFunc,none⟩),
 (155,⟨(TypeDesc.func #[3,3,3] #[27] Bool.false),1,8,Value.nilFunc,none⟩),
 (156,⟨(TypeDesc.array 3 27),9,72,(Value.agg #[zI,zI,zI,zI,zI,zI,zI,zI,zI]),some ff⟩),
 (157,⟨(TypeDesc.func #[] #[27,30] Bool.false),1,8,Value.nilFunc,none⟩),
 (158,⟨(TypeDesc.struct #[(Field.mk "N" 3 0 false "" "" 0),(Field.mk "D" 3 1 false "" "" 8)]),2,16,(Value.agg #[zI,zI]),some gZ⟩),
 (159,⟨(TypeDesc.struct #[(Field.mk "N" 3 0 false "" "" 0),(Field.mk "D" 3 1 false "" "" 8)]),2,16,(Value.agg #[zI,zI]),some gZ⟩),
 (161,⟨(TypeDesc.func #[3,3] #[159,30] Bool.false),1,8,Value.nilFunc,none⟩),
 (162,⟨(TypeDesc.func #[159] #[3] Bool.false),1,8,Value.nilFunc,none⟩),
 (163,⟨(TypeDesc.func #[27] #[3] Bool.false),1,8,Value.nilFunc,none⟩),
 (164,⟨(TypeDesc.func #[27,27] #[27,30] Bool.false),1,8,Value.nilFunc,none⟩),
 (165,⟨(TypeDesc.func #[3] #[27] Bool.false),1,8,Value.nilFunc,none⟩),
 (166,⟨(TypeDesc.func #[27,27] #[27] Bool.false),1,8,Value.nilFunc,none⟩),
 (167,⟨(TypeDesc.func #[46,44] #[4] Bool.false),1,8,Value.nilFunc,none⟩),
 (168,⟨(TypeDesc.func #[27,44] #[3,30] Bool.false),1,8,Value.nilFunc,none⟩),
 (169,⟨(TypeDesc.func #[27,27,27,27] #[3,30] Bool.false),1,8,Value.nilFunc,none⟩),
 (170,⟨(TypeDesc.func #[3,3] #[30] Bool.false),1,8,Value.nilFunc,none⟩),
 (172,⟨(TypeDesc.func #[75,22,27,27] #[4,3,30] Bool.false),1,8,Value.nilFunc,none⟩),
 (173,⟨(TypeDesc.func #[] #[75] Bool.false),1,8,Value.nilFunc,none⟩),
 (174,⟨(TypeDesc.func #[2] #[2] Bool.false),1,8,Value.nilFunc,none⟩),
 (175,⟨(TypeDesc.func #[38] #[4] Bool.true),1,8,Value.nilFunc,none⟩),
 (176,⟨(TypeDesc.pointer 147),1,8,(Value.pointer Option.none),none⟩),
 (177,⟨(TypeDesc.func #[1] #[] Bool.false),1,8,Value.nilFunc,none⟩),
 (178,⟨(TypeDesc.func #[75,22] #[4] Bool.false),1,8,Value.nilFunc,none⟩),
 (180,⟨(TypeDesc.struct #[(Field.mk "t" 75 0 Bool.false "" "limewash/ray" 0),(Field.mk "l" 22 1 Bool.false "" "limewash/ray" 24),(Field.mk "a" 27 2 Bool.false "" "limewash/ray" 48),(Field.mk "b" 27 5 Bool.false "" "limewash/ray" 72)]),8,96,(Value.agg #[(Value.slice Option.none 0 0),(Value.slice Option.none 0 0),zI,zI,zI,zI,zI,zI]),some (.prod (.sl (.prod (.prod aO aO) (.prod yi (.prod yi (.sl yi))))) (.prod (.sl ff) (.prod aO aO)))⟩),
 (181,⟨(TypeDesc.struct #[(Field.mk "t" 75 0 Bool.false "" "limewash/ray" 0),(Field.mk "l" 22 1 Bool.false "" "limewash/ray" 24),(Field.mk "a" 27 2 Bool.false "" "limewash/ray" 48),(Field.mk "b" 27 5 Bool.false "" "limewash/ray" 72)]),8,96,(Value.agg #[(Value.slice Option.none 0 0),(Value.slice Option.none 0 0),zI,zI,zI,zI,zI,zI]),some (.prod (.sl (.prod (.prod aO aO) (.prod yi (.prod yi (.sl yi))))) (.prod (.sl ff) (.prod aO aO)))⟩),
 (182,⟨(TypeDesc.func #[] #[4,3] Bool.false),1,8,Value.nilFunc,none⟩),
 (184,⟨(TypeDesc.func #[22] #[75,30] Bool.false),1,8,Value.nilFunc,none⟩),
 (185,⟨(TypeDesc.pointer 78),1,8,(Value.pointer Option.none),none⟩),
 (186,⟨(TypeDesc.func #[187,2] #[2] Bool.false),1,8,Value.nilFunc,none⟩),
 (187,⟨(TypeDesc.pointer 2),1,8,(Value.pointer Option.none),none⟩),
 (188,⟨(TypeDesc.pointer 74),1,8,(Value.pointer Option.none),none⟩),
 (189,⟨(TypeDesc.func #[124] #[27] Bool.false),1,8,Value.nilFunc,none⟩),
 (191,⟨(TypeDesc.func #[75] #[38,4] Bool.false),1,8,Value.nilFunc,none⟩),
 (192,⟨(TypeDesc.slice 4),1,24,(Value.slice Option.none 0 0),some (.sl .bool)⟩),
 (193,⟨(TypeDesc.struct #[(Field.mk "Low" 27 0 false "" "" 0),(Field.mk "High" 27 3 false "" "" 24)]),6,48,(Value.agg #[zI,zI,zI,zI,zI,zI]),some (.prod aO aO)⟩),
 (194,⟨(TypeDesc.struct #[(Field.mk "Low" 27 0 false "" "" 0),(Field.mk "High" 27 3 false "" "" 24)]),6,48,(Value.agg #[zI,zI,zI,zI,zI,zI]),some (.prod aO aO)⟩),
 (195,⟨(TypeDesc.struct #[(Field.mk "Box" 194 0 false "" "" 0),(Field.mk "Left" 3 6 false "" "" 48),(Field.mk "Right" 3 7 false "" "" 56),(Field.mk "Tris" 38 8 false "" "" 64)]),9,88,(Value.agg #[zI,zI,zI,zI,zI,zI,zI,zI,(Value.slice Option.none 0 0)]),some (.prod (.prod aO aO) (.prod yi (.prod yi (.sl yi))))⟩),
 (196,⟨(TypeDesc.struct #[(Field.mk "Box" 194 0 false "" "" 0),(Field.mk "Left" 3 6 false "" "" 48),(Field.mk "Right" 3 7 false "" "" 56),(Field.mk "Tris" 38 8 false "" "" 64)]),9,88,(Value.agg #[zI,zI,zI,zI,zI,zI,zI,zI,(Value.slice Option.none 0 0)]),some (.prod (.prod aO aO) (.prod yi (.prod yi (.sl yi))))⟩),
 (197,⟨(TypeDesc.struct #[(Field.mk "Branch" 196 0 Bool.true "" "" 0),(Field.mk "at" 3 9 Bool.false "" "limewash/tree" 88)]),10,96,(Value.agg #[zI,zI,zI,zI,zI,zI,zI,zI,(Value.slice Option.none 0 0),zI]),some (.prod (.prod (.prod aO aO) (.prod yi (.prod yi (.sl yi)))) yi)⟩),
 (198,⟨(TypeDesc.struct #[(Field.mk "Branch" 196 0 Bool.true "" "" 0),(Field.mk "at" 3 9 Bool.false "" "limewash/tree" 88)]),10,96,(Value.agg #[zI,zI,zI,zI,zI,zI,zI,zI,(Value.slice Option.none 0 0),zI]),some (.prod (.prod (.prod aO aO) (.prod yi (.prod yi (.sl yi)))) yi)⟩),
 (199,⟨(TypeDesc.func #[192,4] #[4] Bool.false),1,8,Value.nilFunc,none⟩),
 (200,⟨(TypeDesc.func #[27,27,194] #[4,30] Bool.false),1,8,Value.nilFunc,none⟩),
 (201,⟨(TypeDesc.func #[38,99] #[4] Bool.false),1,8,Value.nilFunc,none⟩),
 (202,⟨(TypeDesc.slice 44),1,24,(Value.slice Option.none 0 0),some (.sl ff)⟩),
 (203,⟨(TypeDesc.func #[38] #[] Bool.false),1,8,Value.nilFunc,none⟩),
 (204,⟨(TypeDesc.func #[38] #[194] Bool.false),1,8,Value.nilFunc,none⟩),
 (205,⟨(TypeDesc.func #[38] #[38] Bool.false),1,8,Value.nilFunc,none⟩),
 (207,⟨(TypeDesc.func #[38] #[38,38] Bool.false),1,8,Value.nilFunc,none⟩),
 (208,⟨(TypeDesc.pointer 68),1,8,(Value.pointer Option.none),none⟩),
 (209,⟨(TypeDesc.func #[210] #[66] Bool.false),1,8,Value.nilFunc,none⟩),
 (210,⟨(TypeDesc.pointer 66),1,8,(Value.pointer Option.none),none⟩),
 (211,⟨(TypeDesc.func #[4] #[] Bool.false),1,8,Value.nilFunc,none⟩),
 (212,⟨(TypeDesc.func #[99] #[] Bool.false),1,8,Value.nilFunc,none⟩),
 (213,⟨(TypeDesc.func #[99] #[] Bool.false),1,8,Value.nilFunc,none⟩),
 (214,⟨(TypeDesc.func #[3,3] #[213] Bool.false),1,8,Value.nilFunc,none⟩),
 (215,⟨(TypeDesc.func #[38,3] #[38] Bool.false),1,8,Value.nilFunc,none⟩),
 (216,⟨(TypeDesc.func #[38,3] #[4] Bool.false),1,8,Value.nilFunc,none⟩),
 (217,⟨(TypeDesc.func #[194,27] #[4] Bool.false),1,8,Value.nilFunc,none⟩),
 (218,⟨(TypeDesc.func #[192,4] #[3] Bool.false),1,8,Value.nilFunc,none⟩),
 (219,⟨(TypeDesc.func #[194] #[4] Bool.false),1,8,Value.nilFunc,none⟩),
 (220,⟨(TypeDesc.func #[159,159] #[3] Bool.false),1,8,Value.nilFunc,none⟩),
 (221,⟨(TypeDesc.func #[3,3,3] #[] Bool.false),1,8,Value.nilFunc,none⟩),
 (222,⟨(TypeDesc.func #[38,99] #[3] Bool.false),1,8,Value.nilFunc,none⟩),
 (223,⟨(TypeDesc.func #[202,60] #[4] Bool.false),1,8,Value.nilFunc,none⟩),
 (225,⟨(TypeDesc.func #[46] #[194,30] Bool.true),1,8,Value.nilFunc,none⟩),
 (226,⟨(TypeDesc.func #[194] #[3,30] Bool.false),1,8,Value.nilFunc,none⟩),
 (227,⟨(TypeDesc.struct #[(Field.mk "forest" 202 0 Bool.true "" "limewash/tree" 0),(Field.mk "axis" 3 1 Bool.false "" "limewash/tree" 24)]),2,32,(Value.agg #[(Value.slice Option.none 0 0),zI]),some (.prod (.sl ff) yi)⟩),
 (228,⟨(TypeDesc.struct #[(Field.mk "forest" 202 0 Bool.true "" "limewash/tree" 0),(Field.mk "axis" 3 1 Bool.false "" "limewash/tree" 24)]),2,32,(Value.agg #[(Value.slice Option.none 0 0),zI]),some (.prod (.sl ff) yi)⟩),
 (229,⟨(TypeDesc.func #[38,128] #[] Bool.false),1,8,Value.nilFunc,none⟩),
 (230,⟨(TypeDesc.pointer 72),1,8,(Value.pointer Option.none),none⟩),
 (231,⟨(TypeDesc.func #[210,66] #[] Bool.false),1,8,Value.nilFunc,none⟩),
 (232,⟨(TypeDesc.func #[4] #[66] Bool.false),1,8,Value.nilFunc,none⟩),
 (233,⟨(TypeDesc.int IntKind.u64),1,8,(Value.int IntKind.u64 (0:Int)),some (.int .u64)⟩),
 (235,⟨(TypeDesc.func #[233,233] #[233,233] Bool.false),1,8,Value.nilFunc,none⟩),
 (236,⟨(TypeDesc.func #[38,3] #[3] Bool.false),1,8,Value.nilFunc,none⟩),
 (237,⟨(TypeDesc.struct #[(Field.mk "N" 3 0 false "" "" 0),(Field.mk "D" 3 1 false "" "" 8)]),2,16,(Value.agg #[zI,zI]),some gZ⟩),
 (238,⟨(TypeDesc.func #[237] #[3] Bool.false),1,8,Value.nilFunc,none⟩),
 (239,⟨(TypeDesc.func #[99,38] #[4] Bool.true),1,8,Value.nilFunc,none⟩),
 (240,⟨(TypeDesc.func #[202,60] #[3] Bool.false),1,8,Value.nilFunc,none⟩),
 (241,⟨(TypeDesc.func #[38] #[3] Bool.true),1,8,Value.nilFunc,none⟩),
 (242,⟨(TypeDesc.func #[38,3,3,3,128] #[] Bool.false),1,8,Value.nilFunc,none⟩),
 (243,⟨(TypeDesc.func #[233] #[3] Bool.false),1,8,Value.nilFunc,none⟩),
 (244,⟨(TypeDesc.pointer 70),1,8,(Value.pointer Option.none),none⟩),
 (245,⟨(TypeDesc.func #[246,21,21] #[4] Bool.false),1,8,Value.nilFunc,none⟩),
 (246,⟨(TypeDesc.pointer 21),1,8,(Value.pointer Option.none),none⟩),
 (247,⟨(TypeDesc.func #[248] #[] Bool.false),1,8,Value.nilFunc,none⟩),
 (248,⟨TypeDesc.unsafePointer,1,8,(Value.pointer Option.none),none⟩),
 (249,⟨(TypeDesc.func #[246,21] #[21] Bool.false),1,8,Value.nilFunc,none⟩),
 (250,⟨(TypeDesc.func #[21] #[] Bool.false),1,8,Value.nilFunc,none⟩),
 (252,⟨(TypeDesc.func #[66,66] #[66,66] Bool.false),1,8,Value.nilFunc,none⟩),
 (253,⟨(TypeDesc.int IntKind.u64),1,8,(Value.int IntKind.u64 (0:Int)),some (.int .u64)⟩),
 (255,⟨(TypeDesc.func #[253,253] #[253,253] Bool.false),1,8,Value.nilFunc,none⟩),
 (256,⟨(TypeDesc.struct #[(Field.mk "Hi" 3 0 false "" "" 0),(Field.mk "Lo" 3 1 false "" "" 8)]),2,16,(Value.agg #[zI,zI]),some gZ⟩),
 (257,⟨(TypeDesc.struct #[(Field.mk "Hi" 3 0 false "" "" 0),(Field.mk "Lo" 3 1 false "" "" 8)]),2,16,(Value.agg #[zI,zI]),some gZ⟩),
 (259,⟨(TypeDesc.func #[3,3] #[257,30] Bool.false),1,8,Value.nilFunc,none⟩),
 (260,⟨(TypeDesc.func #[257,257] #[3] Bool.false),1,8,Value.nilFunc,none⟩),
 (261,⟨(TypeDesc.func #[38,3,3,128] #[] Bool.false),1,8,Value.nilFunc,none⟩),
 (262,⟨(TypeDesc.int IntKind.i64),1,8,zI,some yi⟩),
 (264,⟨(TypeDesc.func #[38,3,3,128] #[3,262] Bool.false),1,8,Value.nilFunc,none⟩),
 (265,⟨(TypeDesc.func #[38,3,3,128] #[4] Bool.false),1,8,Value.nilFunc,none⟩),
 (266,⟨(TypeDesc.func #[38,3,3,3,128] #[3] Bool.false),1,8,Value.nilFunc,none⟩),
 (268,⟨(TypeDesc.func #[38,3,3,3,128] #[3,4] Bool.false),1,8,Value.nilFunc,none⟩),
 (269,⟨(TypeDesc.func #[66] #[3] Bool.false),1,8,Value.nilFunc,none⟩),
 (270,⟨(TypeDesc.func #[253] #[3] Bool.false),1,8,Value.nilFunc,none⟩),
 (271,⟨(TypeDesc.func #[9] #[] Bool.false),1,8,Value.nilFunc,none⟩),
 (272,⟨(TypeDesc.func #[] #[2] Bool.false),1,8,Value.nilFunc,none⟩),
 (273,⟨(TypeDesc.func #[210,4,3] #[] Bool.false),1,8,Value.nilFunc,none⟩),
 (274,⟨(TypeDesc.array 2 3),2,16,(Value.agg #[zI,zI]),some gZ⟩),
 (275,⟨(TypeDesc.func #[3] #[274] Bool.false),1,8,Value.nilFunc,none⟩),
 (276,⟨(TypeDesc.func #[257] #[257,30] Bool.false),1,8,Value.nilFunc,none⟩),
 (277,⟨(TypeDesc.int IntKind.u64),1,8,(Value.int IntKind.u64 (0:Int)),some (.int .u64)⟩),
 (278,⟨(TypeDesc.func #[3] #[233] Bool.false),1,8,Value.nilFunc,none⟩),
 (279,⟨(TypeDesc.func #[] #[253] Bool.false),1,8,Value.nilFunc,none⟩),
 (280,⟨(TypeDesc.func #[38,3,281,128] #[3] Bool.false),1,8,Value.nilFunc,none⟩),
 (281,⟨(TypeDesc.pointer 3),1,8,(Value.pointer Option.none),none⟩),
 (282,⟨(TypeDesc.func #[38,3,3,3,281,128] #[3] Bool.false),1,8,Value.nilFunc,none⟩),
 (283,⟨(TypeDesc.func #[257] #[4] Bool.false),1,8,Value.nilFunc,none⟩),
 (284,⟨(TypeDesc.pointer 277),1,8,(Value.pointer Option.none),none⟩),
 (286,⟨(TypeDesc.func #[38,3,3,281,128] #[3,3] Bool.false),1,8,Value.nilFunc,none⟩),
 (287,⟨(TypeDesc.func #[] #[9] Bool.false),1,8,Value.nilFunc,none⟩),
 (293,⟨(TypeDesc.int IntKind.u8),1,1,(Value.int IntKind.u8 (0:Int)),some (.int .u8)⟩),
 (294,⟨(TypeDesc.int IntKind.u8),1,1,(Value.int IntKind.u8 (0:Int)),some (.int .u8)⟩),
 (295,⟨(TypeDesc.func #[248,248] #[4] Bool.false),1,8,Value.nilFunc,none⟩),
 (296,⟨(TypeDesc.pointer 5),1,8,(Value.pointer Option.none),none⟩),
 (297,⟨(TypeDesc.int IntKind.i32),1,4,(Value.int IntKind.i32 (0:Int)),some (.int .i32)⟩),
 (298,⟨(TypeDesc.int IntKind.i32),1,4,(Value.int IntKind.i32 (0:Int)),some (.int .i32)⟩),
 (301,⟨(TypeDesc.func #[] #[3,3] Bool.false),1,8,Value.nilFunc,none⟩)]
set_option maxRecDepth 100000 in
theorem az:aK Tryz.prog tt:=
 aK.cons (by kernel_rfl) (by decide) (by kernel_rfl) (by kernel_rfl) (
 aK.cons (by kernel_rfl) (by decide) (by kernel_rfl) (by kernel_rfl) (
 aK.cons (by kernel_rfl) (by decide) (by kernel_rfl) (by kernel_rfl) (
 aK.cons (by kernel_rfl) (by decide) (by kernel_rfl) (by kernel_rfl) (
 aK.cons (by kernel_rfl) (by decide) (by kernel_rfl) (by kernel_rfl) (
 aK.cons (by kernel_rfl) (by decide) (by kernel_rfl) (by kernel_rfl) (
 aK.cons (by kernel_rfl) (by decide) (by kernel_rfl) (by kernel_rfl) (
 aK.cons (by kernel_rfl) (by decide) (by kernel_rfl) (by kernel_rfl) (
 aK.cons (by kernel_rfl) (by decide) (by kernel_rfl) (by kernel_rfl) (
 aK.cons (by kernel_rfl) (by decide) (by kernel_rfl) (by kernel_rfl) (
 aK.cons (by kernel_rfl) (by decide) (by kernel_rfl) (by kernel_rfl) (
 aK.cons (by kernel_rfl) (by decide) (by kernel_rfl) (by kernel_rfl) (
 aK.cons (by kernel_rfl) (by decide) (by kernel_rfl) (by kernel_rfl) (
 aK.cons (by kernel_rfl) (by decide) (by kernel_rfl) (by kernel_rfl) (
 aK.cons (by kernel_rfl) (by decide) (by kernel_rfl) (by kernel_rfl) (
 aK.cons (by kernel_rfl) (by decide) (by kernel_rfl) (by kernel_rfl) (
 aK.cons (by kernel_rfl) (by decide) (by kernel_rfl) (by kernel_rfl) (
 aK.cons (by kernel_rfl) (by decide) (by kernel_rfl) (by kernel_rfl) (
 aK.cons (by kernel_rfl) (by decide) (by kernel_rfl) (by kernel_rfl) (
 aK.cons (by kernel_rfl) (by decide) (by kernel_rfl) (by kernel_rfl) (
 aK.cons (by kernel_rfl) (by decide) (by kernel_rfl) (by kernel_rfl) (
 aK.cons (by kernel_rfl) (by decide) (by kernel_rfl) (by kernel_rfl) (
 aK.cons (by kernel_rfl) (by decide) (by kernel_rfl) (by kernel_rfl) (
 aK.cons (by kernel_rfl) (by decide) (by kernel_rfl) (by kernel_rfl) (
 aK.cons (by kernel_rfl) (by decide) (by kernel_rfl) (by kernel_rfl) (
 aK.cons (by kernel_rfl) (by decide) (by kernel_rfl) (by kernel_rfl) (
 aK.cons (by kernel_rfl) (by decide) (by kernel_rfl) (by kernel_rfl) (
 aK.cons (by kernel_rfl) (by decide) (by kernel_rfl) (by kernel_rfl) (
 aK.cons (by kernel_rfl) (by decide) (by kernel_rfl) (by kernel_rfl) (
 aK.cons (by kernel_rfl) (by decide) (by kernel_rfl) (by kernel_rfl) (
 aK.cons (by kernel_rfl) (by decide) (by kernel_rfl) (by kernel_rfl) (
 aK.cons (by kernel_rfl) (by decide) (by kernel_rfl) (by kernel_rfl) (
 aK.cons (by kernel_rfl) (by decide) (by kernel_rfl) (by kernel_rfl) (
 aK.cons (by kernel_rfl) (by decide) (by kernel_rfl) (by kernel_rfl) (
 aK.cons (by kernel_rfl) (by decide) (by kernel_rfl) (by kernel_rfl) (
 aK.cons (by kernel_rfl) (by decide) (by kernel_rfl) (by kernel_rfl) (
 aK.cons (by kernel_rfl) (by decide) (by kernel_rfl) (by kernel_rfl) (
 aK.cons (by kernel_rfl) (by decide) (by kernel_rfl) (by kernel_rfl) (
 aK.cons (by kernel_rfl) (by decide) (by kernel_rfl) (by kernel_rfl) (
 aK.cons (by kernel_rfl) (by decide) (by kernel_rfl) (by kernel_rfl) (
 aK.cons (by kernel_rfl) (by decide) (by kernel_rfl) (by kernel_rfl) (
 aK.cons (by kernel_rfl) (by decide) (by kernel_rfl) (by kernel_rfl) (
 aK.cons (by kernel_rfl) (by decide) (by kernel_rfl) (by kernel_rfl) (
 aK.cons (by kernel_rfl) (by decide) (by kernel_rfl) (by kernel_rfl) (
 aK.cons (by kernel_rfl) (by decide) (by kernel_rfl) (by kernel_rfl) (
 aK.cons (by kernel_rfl) (by decide) (by kernel_rfl) (by kernel_rfl) (
 aK.cons (by kernel_rfl) (by decide) (by kernel_rfl) (by kernel_rfl) (
 aK.cons (by kernel_rfl) (by decide) (by kernel_rfl) (by kernel_rfl) (
 aK.cons (by kernel_rfl) (by decide) (by kernel_rfl) (by kernel_rfl) (
 aK.cons (by kernel_rfl) (by decide) (by kernel_rfl) (by kernel_rfl) (
 aK.cons (by kernel_rfl) (by decide) (by kernel_rfl) (by kernel_rfl) (
 aK.cons (by kernel_rfl) (by decide) (by kernel_rfl) (by kernel_rfl) (
 aK.cons (by kernel_rfl) (by decide) (by kernel_rfl) (by kernel_rfl) (
 aK.cons (by kernel_rfl) (by decide) (by kernel_rfl) (by kernel_rfl) (
 aK.cons (by kernel_rfl) (by decide) (by kernel_rfl) (by kernel_rfl) (
 aK.cons (by kernel_rfl) (by decide) (by kernel_rfl) (by kernel_rfl) (
 aK.cons (by kernel_rfl) (by decide) (by kernel_rfl) (by kernel_rfl) (
 aK.cons (by kernel_rfl) (by decide) (by kernel_rfl) (by kernel_rfl) (
 aK.cons (by kernel_rfl) (by decide) (by kernel_rfl) (by kernel_rfl) (
 aK.cons (by kernel_rfl) (by decide) (by kernel_rfl) (by kernel_rfl) (
 aK.cons (by kernel_rfl) (by decide) (by kernel_rfl) (by kernel_rfl) (
 aK.cons (by kernel_rfl) (by decide) (by kernel_rfl) (by kernel_rfl) (
 aK.cons (by kernel_rfl) (by decide) (by kernel_rfl) (by kernel_rfl) (
 aK.cons (by kernel_rfl) (by decide) (by kernel_rfl) (by kernel_rfl) (
 aK.cons (by kernel_rfl) (by decide) (by kernel_rfl) (by kernel_rfl) (
 aK.cons (by kernel_rfl) (by decide) (by kernel_rfl) (by kernel_rfl) (
 aK.cons (by kernel_rfl) (by decide) (by kernel_rfl) (by kernel_rfl) (
 aK.cons (by kernel_rfl) (by decide) (by kernel_rfl) (by kernel_rfl) (
 aK.cons (by kernel_rfl) (by decide) (by kernel_rfl) (by kernel_rfl) (
 aK.cons (by kernel_rfl) (by decide) (by kernel_rfl) (by kernel_rfl) (
 aK.cons (by kernel_rfl) (by decide) (by kernel_rfl) (by kernel_rfl) (
 aK.cons (by kernel_rfl) (by decide) (by kernel_rfl) (by kernel_rfl) (
 aK.cons (by kernel_rfl) (by decide) (by kernel_rfl) (by kernel_rfl) (
 aK.cons (by kernel_rfl) (by decide) (by kernel_rfl) (by kernel_rfl) (
 aK.cons (by kernel_rfl) (by decide) (by kernel_rfl) (by kernel_rfl) (
 aK.cons (by kernel_rfl) (by decide) (by kernel_rfl) (by kernel_rfl) (
 aK.cons (by kernel_rfl) (by decide) (by kernel_rfl) (by kernel_rfl) (
 aK.cons (by kernel_rfl) (by decide) (by kernel_rfl) (by kernel_rfl) (
 aK.cons (by kernel_rfl) (by decide) (by kernel_rfl) (by kernel_rfl) (
 aK.cons (by kernel_rfl) (by decide) (by kernel_rfl) (by kernel_rfl) (
 aK.cons (by kernel_rfl) (by decide) (by kernel_rfl) (by kernel_rfl) (
 aK.cons (by kernel_rfl) (by decide) (by kernel_rfl) (by kernel_rfl) (
 aK.cons (by kernel_rfl) (by decide) (by kernel_rfl) (by kernel_rfl) (
 aK.cons (by kernel_rfl) (by decide) (by kernel_rfl) (by kernel_rfl) (
 aK.cons (by kernel_rfl) (by decide) (by kernel_rfl) (by kernel_rfl) (
 aK.cons (by kernel_rfl) (by decide) (by kernel_rfl) (by kernel_rfl) (
 aK.cons (by kernel_rfl) (by decide) (by kernel_rfl) (by kernel_rfl) (
 aK.cons (by kernel_rfl) (by decide) (by kernel_rfl) (by kernel_rfl) (
 aK.cons (by kernel_rfl) (by decide) (by kernel_rfl) (by kernel_rfl) (
 aK.cons (by kernel_rfl) (by decide) (by kernel_rfl) (by kernel_rfl) (
 aK.cons (by kernel_rfl) (by decide) (by kernel_rfl) (by kernel_rfl) (
 aK.cons (by kernel_rfl) (by decide) (by kernel_rfl) (by kernel_rfl) (
 aK.cons (by kernel_rfl) (by decide) (by kernel_rfl) (by kernel_rfl) (
 aK.cons (by kernel_rfl) (by decide) (by kernel_rfl) (by kernel_rfl) (
 aK.cons (by kernel_rfl) (by decide) (by kernel_rfl) (by kernel_rfl) (
 aK.cons (by kernel_rfl) (by decide) (by kernel_rfl) (by kernel_rfl) (
 aK.cons (by kernel_rfl) (by decide) (by kernel_rfl) (by kernel_rfl) (
 aK.cons (by kernel_rfl) (by decide) (by kernel_rfl) (by kernel_rfl) (
 aK.cons (by kernel_rfl) (by decide) (by kernel_rfl) (by kernel_rfl) (
 aK.cons (by kernel_rfl) (by decide) (by kernel_rfl) (by kernel_rfl) (
 aK.cons (by kernel_rfl) (by decide) (by kernel_rfl) (by kernel_rfl) (
 aK.cons (by kernel_rfl) (by decide) (by kernel_rfl) (by kernel_rfl) (
 aK.cons (by kernel_rfl) (by decide) (by kernel_rfl) (by kernel_rfl) (
 aK.cons (by kernel_rfl) (by decide) (by kernel_rfl) (by kernel_rfl) (
 aK.cons (by kernel_rfl) (by decide) (by kernel_rfl) (by kernel_rfl) (
 aK.cons (by kernel_rfl) (by decide) (by kernel_rfl) (by kernel_rfl) (
 aK.cons (by kernel_rfl) (by decide) (by kernel_rfl) (by kernel_rfl) (
 aK.cons (by kernel_rfl) (by decide) (by kernel_rfl) (by kernel_rfl) (
 aK.cons (by kernel_rfl) (by decide) (by kernel_rfl) (by kernel_rfl) (
 aK.cons (by kernel_rfl) (by decide) (by kernel_rfl) (by kernel_rfl) (
 aK.cons (by kernel_rfl) (by decide) (by kernel_rfl) (by kernel_rfl) (
 aK.cons (by kernel_rfl) (by decide) (by kernel_rfl) (by kernel_rfl) (
 aK.cons (by kernel_rfl) (by decide) (by kernel_rfl) (by kernel_rfl) (
 aK.cons (by kernel_rfl) (by decide) (by kernel_rfl) (by kernel_rfl) (
 aK.cons (by kernel_rfl) (by decide) (by kernel_rfl) (by kernel_rfl) (
 aK.cons (by kernel_rfl) (by decide) (by kernel_rfl) (by kernel_rfl) (
 aK.cons (by kernel_rfl) (by decide) (by kernel_rfl) (by kernel_rfl) (
 aK.cons (by kernel_rfl) (by decide) (by kernel_rfl) (by kernel_rfl) (
 aK.cons (by kernel_rfl) (by decide) (by kernel_rfl) (by kernel_rfl) (
 aK.cons (by kernel_rfl) (by decide) (by kernel_rfl) (by kernel_rfl) (
 aK.cons (by kernel_rfl) (by decide) (by kernel_rfl) (by kernel_rfl) (
 aK.cons (by kernel_rfl) (by decide) (by kernel_rfl) (by kernel_rfl) (
 aK.cons (by kernel_rfl) (by decide) (by kernel_rfl) (by kernel_rfl) (
 aK.cons (by kernel_rfl) (by decide) (by kernel_rfl) (by kernel_rfl) (
 aK.cons (by kernel_rfl) (by decide) (by kernel_rfl) (by kernel_rfl) (
 aK.cons (by kernel_rfl) (by decide) (by kernel_rfl) (by kernel_rfl) (
 aK.cons (by kernel_rfl) (by decide) (by kernel_rfl) (by kernel_rfl) (
 aK.cons (by kernel_rfl) (by decide) (by kernel_rfl) (by kernel_rfl) (
 aK.cons (by kernel_rfl) (by decide) (by kernel_rfl) (by kernel_rfl) (
 aK.cons (by kernel_rfl) (by decide) (by kernel_rfl) (by kernel_rfl) (
 aK.cons (by kernel_rfl) (by decide) (by kernel_rfl) (by kernel_rfl) (
 aK.cons (by kernel_rfl) (by decide) (by kernel_rfl) (by kernel_rfl) (
 aK.cons (by kernel_rfl) (by decide) (by kernel_rfl) (by kernel_rfl) (
 aK.cons (by kernel_rfl) (by decide) (by kernel_rfl) (by kernel_rfl) (
 aK.cons (by kernel_rfl) (by decide) (by kernel_rfl) (by kernel_rfl) (
 aK.cons (by kernel_rfl) (by decide) (by kernel_rfl) (by kernel_rfl) (
 aK.cons (by kernel_rfl) (by decide) (by kernel_rfl) (by kernel_rfl) (
 aK.cons (by kernel_rfl) (by decide) (by kernel_rfl) (by kernel_rfl) (
 aK.cons (by kernel_rfl) (by decide) (by kernel_rfl) (by kernel_rfl) (
 aK.cons (by kernel_rfl) (by decide) (by kernel_rfl) (by kernel_rfl) (
 aK.cons (by kernel_rfl) (by decide) (by kernel_rfl) (by kernel_rfl) (
 aK.cons (by kernel_rfl) (by decide) (by kernel_rfl) (by kernel_rfl) (
 aK.cons (by kernel_rfl) (by decide) (by kernel_rfl) (by kernel_rfl) (
 aK.cons (by kernel_rfl) (by decide) (by kernel_rfl) (by kernel_rfl) (
 aK.cons (by kernel_rfl) (by decide) (by kernel_rfl) (by kernel_rfl) (
 aK.cons (by kernel_rfl) (by decide) (by kernel_rfl) (by kernel_rfl) (
 aK.cons (by kernel_rfl) (by decide) (by kernel_rfl) (by kernel_rfl) (
 aK.cons (by kernel_rfl) (by decide) (by kernel_rfl) (by kernel_rfl) (
 aK.cons (by kernel_rfl) (by decide) (by kernel_rfl) (by kernel_rfl) (
 aK.cons (by kernel_rfl) (by decide) (by kernel_rfl) (by kernel_rfl) (
 aK.cons (by kernel_rfl) (by decide) (by kernel_rfl) (by kernel_rfl) (
 aK.cons (by kernel_rfl) (by decide) (by kernel_rfl) (by kernel_rfl) (
 aK.cons (by kernel_rfl) (by decide) (by kernel_rfl) (by kernel_rfl) (
 aK.cons (by kernel_rfl) (by decide) (by kernel_rfl) (by kernel_rfl) (
 aK.cons (by kernel_rfl) (by decide) (by kernel_rfl) (by kernel_rfl) (
 aK.cons (by kernel_rfl) (by decide) (by kernel_rfl) (by kernel_rfl) (
 aK.cons (by kernel_rfl) (by decide) (by kernel_rfl) (by kernel_rfl) (
 aK.cons (by kernel_rfl) (by decide) (by kernel_rfl) (by kernel_rfl) (
 aK.cons (by kernel_rfl) (by decide) (by kernel_rfl) (by kernel_rfl) (
 aK.cons (by kernel_rfl) (by decide) (by kernel_rfl) (by kernel_rfl) (
 aK.cons (by kernel_rfl) (by decide) (by kernel_rfl) (by kernel_rfl) (
 aK.cons (by kernel_rfl) (by decide) (by kernel_rfl) (by kernel_rfl) (
 aK.cons (by kernel_rfl) (by decide) (by kernel_rfl) (by kernel_rfl) (
 aK.cons (by kernel_rfl) (by decide) (by kernel_rfl) (by kernel_rfl) (
 aK.cons (by kernel_rfl) (by decide) (by kernel_rfl) (by kernel_rfl) (
 aK.cons (by kernel_rfl) (by decide) (by kernel_rfl) (by kernel_rfl) (
 aK.cons (by kernel_rfl) (by decide) (by kernel_rfl) (by kernel_rfl) (
 aK.cons (by kernel_rfl) (by decide) (by kernel_rfl) (by kernel_rfl) (
 aK.cons (by kernel_rfl) (by decide) (by kernel_rfl) (by kernel_rfl) (
 aK.cons (by kernel_rfl) (by decide) (by kernel_rfl) (by kernel_rfl) (
 aK.cons (by kernel_rfl) (by decide) (by kernel_rfl) (by kernel_rfl) (
 aK.cons (by kernel_rfl) (by decide) (by kernel_rfl) (by kernel_rfl) (
 aK.cons (by kernel_rfl) (by decide) (by kernel_rfl) (by kernel_rfl) (
 aK.cons (by kernel_rfl) (by decide) (by kernel_rfl) (by kernel_rfl) (
 aK.cons (by kernel_rfl) (by decide) (by kernel_rfl) (by kernel_rfl) (
 aK.cons (by kernel_rfl) (by decide) (by kernel_rfl) (by kernel_rfl) (
 aK.cons (by kernel_rfl) (by decide) (by kernel_rfl) (by kernel_rfl) (
 aK.cons (by kernel_rfl) (by decide) (by kernel_rfl) (by kernel_rfl) (
 aK.cons (by kernel_rfl) (by decide) (by kernel_rfl) (by kernel_rfl) (
 aK.cons (by kernel_rfl) (by decide) (by kernel_rfl) (by kernel_rfl) (
 aK.cons (by kernel_rfl) (by decide) (by kernel_rfl) (by kernel_rfl) (
 aK.cons (by kernel_rfl) (by decide) (by kernel_rfl) (by kernel_rfl) (
 aK.cons (by kernel_rfl) (by decide) (by kernel_rfl) (by kernel_rfl) (
 aK.cons (by kernel_rfl) (by decide) (by kernel_rfl) (by kernel_rfl) (
 aK.cons (by kernel_rfl) (by decide) (by kernel_rfl) (by kernel_rfl) (
 aK.cons (by kernel_rfl) (by decide) (by kernel_rfl) (by kernel_rfl) (
 aK.cons (by kernel_rfl) (by decide) (by kernel_rfl) (by kernel_rfl) (
 aK.cons (by kernel_rfl) (by decide) (by kernel_rfl) (by kernel_rfl) (
 aK.cons (by kernel_rfl) (by decide) (by kernel_rfl) (by kernel_rfl) (
 aK.cons (by kernel_rfl) (by decide) (by kernel_rfl) (by kernel_rfl) (
 aK.cons (by kernel_rfl) (by decide) (by kernel_rfl) (by kernel_rfl) (
 aK.cons (by kernel_rfl) (by decide) (by kernel_rfl) (by kernel_rfl) (
 aK.cons (by kernel_rfl) (by decide) (by kernel_rfl) (by kernel_rfl) (
 aK.cons (by kernel_rfl) (by decide) (by kernel_rfl) (by kernel_rfl) (
 aK.cons (by kernel_rfl) (by decide) (by kernel_rfl) (by kernel_rfl) (
 aK.cons (by kernel_rfl) (by decide) (by kernel_rfl) (by kernel_rfl) (
 aK.cons (by kernel_rfl) (by decide) (by kernel_rfl) (by kernel_rfl) (
 aK.cons (by kernel_rfl) (by decide) (by kernel_rfl) (by kernel_rfl) (
 aK.cons (by kernel_rfl) (by decide) (by kernel_rfl) (by kernel_rfl) (
 aK.cons (by kernel_rfl) (by decide) (by kernel_rfl) (by kernel_rfl) (
 aK.cons (by kernel_rfl) (by decide) (by kernel_rfl) (by kernel_rfl) (
 aK.cons (by kernel_rfl) (by decide) (by kernel_rfl) (by kernel_rfl) (
 aK.cons (by kernel_rfl) (by decide) (by kernel_rfl) (by kernel_rfl) (
 aK.cons (by kernel_rfl) (by decide) (by kernel_rfl) (by kernel_rfl) (
 aK.cons (by kernel_rfl) (by decide) (by kernel_rfl) (by kernel_rfl) (
 aK.cons (by kernel_rfl) (by decide) (by kernel_rfl) (by kernel_rfl) (
 aK.cons (by kernel_rfl) (by decide) (by kernel_rfl) (by kernel_rfl) (
 aK.cons (by kernel_rfl) (by decide) (by kernel_rfl) (by kernel_rfl) (
 aK.cons (by kernel_rfl) (by decide) (by kernel_rfl) (by kernel_rfl) (
 aK.cons (by kernel_rfl) (by decide) (by kernel_rfl) (by kernel_rfl) (
 aK.cons (by kernel_rfl) (by decide) (by kernel_rfl) (by kernel_rfl) (
 aK.cons (by kernel_rfl) (by decide) (by kernel_rfl) (by kernel_rfl) (
 aK.cons (by kernel_rfl) (by decide) (by kernel_rfl) (by kernel_rfl) (
 aK.cons (by kernel_rfl) (by decide) (by kernel_rfl) (by kernel_rfl) (
 aK.cons (by kernel_rfl) (by decide) (by kernel_rfl) (by kernel_rfl) (
 aK.cons (by kernel_rfl) (by decide) (by kernel_rfl) (by kernel_rfl) (
 aK.cons (by kernel_rfl) (by decide) (by kernel_rfl) (by kernel_rfl) (
 aK.cons (by kernel_rfl) (by decide) (by kernel_rfl) (by kernel_rfl) (
 aK.cons (by kernel_rfl) (by decide) (by kernel_rfl) (by kernel_rfl) (
 aK.cons (by kernel_rfl) (by decide) (by kernel_rfl) (by kernel_rfl) (
 aK.cons (by kernel_rfl) (by decide) (by kernel_rfl) (by kernel_rfl) (
 aK.cons (by kernel_rfl) (by decide) (by kernel_rfl) (by kernel_rfl) (
 aK.cons (by kernel_rfl) (by decide) (by kernel_rfl) (by kernel_rfl) (
 aK.cons (by kernel_rfl) (by decide) (by kernel_rfl) (by kernel_rfl) (
 aK.cons (by kernel_rfl) (by decide) (by kernel_rfl) (by kernel_rfl) (
 aK.cons (by kernel_rfl) (by decide) (by kernel_rfl) (by kernel_rfl) (
 aK.cons (by kernel_rfl) (by decide) (by kernel_rfl) (by kernel_rfl) (
 aK.cons (by kernel_rfl) (by decide) (by kernel_rfl) (by kernel_rfl) (
 aK.cons (by kernel_rfl) (by decide) (by kernel_rfl) (by kernel_rfl) (
 aK.cons (by kernel_rfl) (by decide) (by kernel_rfl) (by kernel_rfl) (
 aK.cons (by kernel_rfl) (by decide) (by kernel_rfl) (by kernel_rfl) (
 aK.cons (by kernel_rfl) (by decide) (by kernel_rfl) (by kernel_rfl) (
 aK.cons (by kernel_rfl) (by decide) (by kernel_rfl) (by kernel_rfl) (
 aK.cons (by kernel_rfl) (by decide) (by kernel_rfl) (by kernel_rfl) (
 aK.cons (by kernel_rfl) (by decide) (by kernel_rfl) (by kernel_rfl) (
 aK.cons (by kernel_rfl) (by decide) (by kernel_rfl) (by kernel_rfl) (
 aK.cons (by kernel_rfl) (by decide) (by kernel_rfl) (by kernel_rfl) (
 aK.cons (by kernel_rfl) (by decide) (by kernel_rfl) (by kernel_rfl) (
 aK.cons (by kernel_rfl) (by decide) (by kernel_rfl) (by kernel_rfl) (
 aK.cons (by kernel_rfl) (by decide) (by kernel_rfl) (by kernel_rfl) (
 aK.cons (by kernel_rfl) (by decide) (by kernel_rfl) (by kernel_rfl) (
 aK.cons (by kernel_rfl) (by decide) (by kernel_rfl) (by kernel_rfl) (
 aK.cons (by kernel_rfl) (by decide) (by kernel_rfl) (by kernel_rfl) (
 aK.cons (by kernel_rfl) (by decide) (by kernel_rfl) (by kernel_rfl) (
 aK.cons (by kernel_rfl) (by decide) (by kernel_rfl) (by kernel_rfl) (
 aK.cons (by kernel_rfl) (by decide) (by kernel_rfl) (by kernel_rfl) (
 aK.cons (by kernel_rfl) (by decide) (by kernel_rfl) (by kernel_rfl) (
 aK.cons (by kernel_rfl) (by decide) (by kernel_rfl) (by kernel_rfl) (
 aK.cons (by kernel_rfl) (by decide) (by kernel_rfl) (by kernel_rfl) (
 aK.cons (by kernel_rfl) (by decide) (by kernel_rfl) (by kernel_rfl) (
 aK.cons (by kernel_rfl) (by decide) (by kernel_rfl) (by kernel_rfl) (
 aK.cons (by kernel_rfl) (by decide) (by kernel_rfl) (by kernel_rfl) (
 aK.cons (by kernel_rfl) (by decide) (by kernel_rfl) (by kernel_rfl) (
 aK.cons (by kernel_rfl) (by decide) (by kernel_rfl) (by kernel_rfl) (
 aK.cons (by kernel_rfl) (by decide) (by kernel_rfl) (by kernel_rfl) (
 aK.cons (by kernel_rfl) (by decide) (by kernel_rfl) (by kernel_rfl) (
 aK.cons (by kernel_rfl) (by decide) (by kernel_rfl) (by kernel_rfl) (
 aK.cons (by kernel_rfl) (by decide) (by kernel_rfl) (by kernel_rfl) (
 aK.nil))))))))))))))))))))))))))))))))))))))))))))))))))))))))))))))))))))))))))))))))))))))))))))))))))))))))))))))))))))))))))))))))))))))))))))))))))))))))))))))))))))))))))))))))))))))))))))))))))))))))))))))))))))))))))))))))))))))))))))))))))))))))))))))))))
theorem mixed:Tryz.prog.follows .mixedOrders=true:=by kernel_rfl
end Go.Proofs.YtngdehlpoomaiaaGreat
