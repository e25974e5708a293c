/- The types of this translation, as the evaluator wants them. -/
import Derived.Test.YtaipcbdilkcdbaaEvR
import Derived.Test.YtaipcbdilkcdbaaChecked
import Derived.Test.YtaipcbdilkcdbaaEvT
noncomputable section
set_option linter.unusedSectionVars false
set_option linter.unusedVariables false
set_option linter.unusedSimpArgs false
namespace Go.Proofs.Ytaipcbdilkcdbaa
open Go Go.Ev Go.Proofs
abbrev z0:Int:=0
abbrev z1:Int:=1
abbrev tN (i:Int):Nat:=Int.toNat i
abbrev gI (l:List Int) (i:Int):Int:=List.getD l (Int.toNat i) (0:Int)
abbrev gT {α:Type} (l:List α) (i:Int) (d:α):α:=List.getD l (Int.toNat i) d
abbrev nL {α:Type} (l:List α):Int:=((List.length l:Nat):Int)
abbrev _root_.Go.Ev.Tr.oI1 {τ α:Type} {i:Bool} (j:Int) (l:List α) (t:Tr τ i):Tr τ true:= .oR j ((List.length l:Nat):Int) (.od (Int.toNat j<List.length l) t)
abbrev _root_.Go.Ev.Tr.cf {τ α:Type} {i:Bool} (j:Int) (l:List α) (t:Tr τ i):Tr τ true:= .oR j ((List.length l:Nat):Int) (.od (Int.toNat j<List.length l) (.od (Int.toNat j<List.length l) t))
abbrev _root_.Go.Ev.Tr.UK {τ α:Type} {i:Bool} (j:Int) (l:List α) (t:Tr τ i):Tr τ true:= .oR j ((List.length l:Nat):Int) (.od (Int.toNat j<List.length l) (.od (Int.toNat j<List.length l) (.od (Int.toNat j<List.length l) t)))
abbrev w1 (i:Int):Int:=ae (i+(1:Int))
abbrev wm (i:Int):Int:=ae (i- (1:Int))
abbrev zI:Value:=Value.int IntKind.i64 0
def tt:List (Nat×TI):=
 [(1,⟨(TypeDesc.func #[] #[] Bool.false),1,8,Value.nilFunc,none⟩),
 (2,⟨(TypeDesc.int IntKind.i64),1,8,zI,some yi⟩),
 (3,⟨(TypeDesc.int IntKind.i64),1,8,zI,some yi⟩),
 (4,⟨TypeDesc.bool,1,1,(Value.bool Bool.false),some .bool⟩),
 (5,⟨(TypeDesc.int IntKind.u8),1,1,(Value.int IntKind.u8 (0:Int)),some (.int .u8)⟩),
 (6,⟨(TypeDesc.int IntKind.u8),1,1,(Value.int IntKind.u8 (0:Int)),some (.int .u8)⟩),
 (7,⟨(TypeDesc.struct #[(Field.mk "x" 2 0 Bool.false "" "runtime" 0),(Field.mk "y" 3 1 Bool.false "" "runtime" 8),(Field.mk "signed" 4 2 Bool.false "" "runtime" 16),(Field.mk "code" 6 3 Bool.false "" "runtime" 17)]),4,24,(Value.agg #[zI,zI,(Value.bool Bool.false),(Value.int IntKind.u8 (0:Int))]),some (.prod yi (.prod yi (.prod .bool (.int .u8))))⟩),
 (8,⟨(TypeDesc.struct #[(Field.mk "x" 2 0 Bool.false "" "runtime" 0),(Field.mk "y" 3 1 Bool.false "" "runtime" 8),(Field.mk "signed" 4 2 Bool.false "" "runtime" 16),(Field.mk "code" 6 3 Bool.false "" "runtime" 17)]),4,24,(Value.agg #[zI,zI,(Value.bool Bool.false),(Value.int IntKind.u8 (0:Int))]),some (.prod yi (.prod yi (.prod .bool (.int .u8))))⟩),
 (9,⟨TypeDesc.string,1,16,(Value.string (ByteArray.mk #[])),some .str⟩),
 (10,⟨TypeDesc.string,1,16,(Value.string (ByteArray.mk #[])),some .str⟩),
 (11,⟨TypeDesc.string,1,16,(Value.string (ByteArray.mk #[])),some .str⟩),
 (12,⟨(TypeDesc.int IntKind.u64),1,8,(Value.int IntKind.u64 (0:Int)),some (.int .u64)⟩),
 (15,⟨(TypeDesc.pointer 123),1,8,(Value.pointer Option.none),none⟩),
 (16,⟨(TypeDesc.pointer 126),1,8,(Value.pointer Option.none),none⟩),
 (17,⟨(TypeDesc.pointer 135),1,8,(Value.pointer Option.none),none⟩),
 (21,⟨(TypeDesc.int IntKind.i32),1,4,(Value.int IntKind.i32 (0:Int)),some (.int .i32)⟩),
 (22,⟨(TypeDesc.slice 40),1,24,(Value.slice Option.none 0 0),some (.sl cH)⟩),
 (23,⟨(TypeDesc.slice 34),1,24,(Value.slice Option.none 0 0),some (.sl (.prod (.prod cr cr) (.prod yi (.prod yi (.sl yi)))))⟩),
 (24,⟨(TypeDesc.int IntKind.i64),1,8,zI,some yi⟩),
 (26,⟨(TypeDesc.func #[22] #[23,24] Bool.false),1,8,Value.nilFunc,none⟩),
 (27,⟨(TypeDesc.func #[] #[4] Bool.false),1,8,Value.nilFunc,none⟩),
 (28,⟨(TypeDesc.slice 3),1,24,(Value.slice Option.none 0 0),some (.sl yi)⟩),
 (29,⟨(TypeDesc.struct #[(Field.mk "X" 3 0 false "" "" 0),(Field.mk "Y" 3 1 false "" "" 8),(Field.mk "Z" 3 2 false "" "" 16)]),3,24,(Value.agg #[zI,zI,zI]),some cr⟩),
 (30,⟨(TypeDesc.struct #[(Field.mk "X" 3 0 false "" "" 0),(Field.mk "Y" 3 1 false "" "" 8),(Field.mk "Z" 3 2 false "" "" 16)]),3,24,(Value.agg #[zI,zI,zI]),some cr⟩),
 (31,⟨(TypeDesc.struct #[(Field.mk "Low" 30 0 false "" "" 0),(Field.mk "High" 30 3 false "" "" 24)]),6,48,(Value.agg #[zI,zI,zI,zI,zI,zI]),some (.prod cr cr)⟩),
 (32,⟨(TypeDesc.struct #[(Field.mk "Low" 30 0 false "" "" 0),(Field.mk "High" 30 3 false "" "" 24)]),6,48,(Value.agg #[zI,zI,zI,zI,zI,zI]),some (.prod cr cr)⟩),
 (33,⟨(TypeDesc.struct #[(Field.mk "Box" 32 0 false "" "" 0),(Field.mk "Left" 3 6 false "" "" 48),(Field.mk "Right" 3 7 false "" "" 56),(Field.mk "Tris" 28 8 false "" "" 64)]),9,88,(Value.agg #[zI,zI,zI,zI,zI,zI,zI,zI,(Value.slice Option.none 0 0)]),some (.prod (.prod cr cr) (.prod yi (.prod yi (.sl yi))))⟩),
 (34,⟨(TypeDesc.struct #[(Field.mk "Box" 32 0 false "" "" 0),(Field.mk "Left" 3 6 false "" "" 48),(Field.mk "Right" 3 7 false "" "" 56),(Field.mk "Tris" 28 8 false "" "" 64)]),9,88,(Value.agg #[zI,zI,zI,zI,zI,zI,zI,zI,(Value.slice Option.none 0 0)]),some (.prod (.prod cr cr) (.prod yi (.prod yi (.sl yi))))⟩),
 (35,⟨(TypeDesc.func #[23,22] #[4] Bool.false),1,8,Value.nilFunc,none⟩),
 (36,⟨(TypeDesc.func #[23] #[3] Bool.false),1,8,Value.nilFunc,none⟩),
 (37,⟨(TypeDesc.func #[22] #[4] Bool.false),1,8,Value.nilFunc,none⟩),
 (39,⟨(TypeDesc.func #[22,28] #[28,28,24] Bool.false),1,8,Value.nilFunc,none⟩),
 (40,⟨(TypeDesc.array 3 30),9,72,(Value.agg #[zI,zI,zI,zI,zI,zI,zI,zI,zI]),some cH⟩),
 (41,⟨(TypeDesc.func #[22,28] #[4] Bool.false),1,8,Value.nilFunc,none⟩),
 (42,⟨(TypeDesc.func #[23] #[23] Bool.false),1,8,Value.nilFunc,none⟩),
 (43,⟨(TypeDesc.func #[22,3] #[4] Bool.false),1,8,Value.nilFunc,none⟩),
 (44,⟨(TypeDesc.func #[32,30] #[4] Bool.false),1,8,Value.nilFunc,none⟩),
 (46,⟨(TypeDesc.func #[32,32] #[32,24] Bool.false),1,8,Value.nilFunc,none⟩),
 (47,⟨(TypeDesc.slice 40),1,24,(Value.slice Option.none 0 0),some (.sl cH)⟩),
 (48,⟨(TypeDesc.func #[28] #[] Bool.false),1,8,Value.nilFunc,none⟩),
 (49,⟨(TypeDesc.func #[28] #[32] Bool.false),1,8,Value.nilFunc,none⟩),
 (50,⟨(TypeDesc.func #[28] #[28] Bool.false),1,8,Value.nilFunc,none⟩),
 (52,⟨(TypeDesc.func #[28] #[28,28] Bool.false),1,8,Value.nilFunc,none⟩),
 (53,⟨(TypeDesc.func #[3] #[40] Bool.false),1,8,Value.nilFunc,none⟩),
 (54,⟨(TypeDesc.func #[28,28] #[4] Bool.false),1,8,Value.nilFunc,none⟩),
 (56,⟨(TypeDesc.func #[23] #[28,4] Bool.false),1,8,Value.nilFunc,none⟩),
 (57,⟨(TypeDesc.slice 4),1,24,(Value.slice Option.none 0 0),some (.sl .bool)⟩),
 (58,⟨(TypeDesc.struct #[(Field.mk "Branch" 34 0 Bool.true "" "" 0),(Field.mk "at" 3 9 Bool.false "" "limewash/tree" 88)]),10,96,(Value.agg #[zI,zI,zI,zI,zI,zI,zI,zI,(Value.slice Option.none 0 0),zI]),some (.prod (.prod (.prod cr cr) (.prod yi (.prod yi (.sl yi)))) yi)⟩),
 (59,⟨(TypeDesc.struct #[(Field.mk "Branch" 34 0 Bool.true "" "" 0),(Field.mk "at" 3 9 Bool.false "" "limewash/tree" 88)]),10,96,(Value.agg #[zI,zI,zI,zI,zI,zI,zI,zI,(Value.slice Option.none 0 0),zI]),some (.prod (.prod (.prod cr cr) (.prod yi (.prod yi (.sl yi)))) yi)⟩),
 (60,⟨(TypeDesc.func #[40] #[4] Bool.false),1,8,Value.nilFunc,none⟩),
 (61,⟨(TypeDesc.func #[57,4] #[4] Bool.false),1,8,Value.nilFunc,none⟩),
 (62,⟨(TypeDesc.func #[81] #[] Bool.false),1,8,Value.nilFunc,none⟩),
 (63,⟨(TypeDesc.func #[81] #[] Bool.false),1,8,Value.nilFunc,none⟩),
 (64,⟨(TypeDesc.func #[23] #[63] Bool.false),1,8,Value.nilFunc,none⟩),
 (65,⟨(TypeDesc.func #[3] #[4] Bool.false),1,8,Value.nilFunc,none⟩),
 (66,⟨(TypeDesc.func #[28,65] #[4] Bool.false),1,8,Value.nilFunc,none⟩),
 (67,⟨(TypeDesc.func #[32] #[4] Bool.false),1,8,Value.nilFunc,none⟩),
 (68,⟨(TypeDesc.func #[71] #[32,24] Bool.true),1,8,Value.nilFunc,none⟩),
 (69,⟨(TypeDesc.func #[47,60] #[4] Bool.false),1,8,Value.nilFunc,none⟩),
 (70,⟨(TypeDesc.func #[71] #[4] Bool.true),1,8,Value.nilFunc,none⟩),
 (71,⟨(TypeDesc.slice 30),1,24,(Value.slice Option.none 0 0),some (.sl cr)⟩),
 (73,⟨(TypeDesc.func #[32] #[3,24] Bool.false),1,8,Value.nilFunc,none⟩),
 (74,⟨(TypeDesc.func #[3,3] #[3] Bool.false),1,8,Value.nilFunc,none⟩),
 (75,⟨(TypeDesc.struct #[(Field.mk "forest" 47 0 Bool.true "" "limewash/tree" 0),(Field.mk "axis" 3 1 Bool.false "" "limewash/tree" 24)]),2,32,(Value.agg #[(Value.slice Option.none 0 0),zI]),some (.prod (.sl cH) yi)⟩),
 (76,⟨(TypeDesc.struct #[(Field.mk "forest" 47 0 Bool.true "" "limewash/tree" 0),(Field.mk "axis" 3 1 Bool.false "" "limewash/tree" 24)]),2,32,(Value.agg #[(Value.slice Option.none 0 0),zI]),some (.prod (.sl cH) yi)⟩),
 (77,⟨(TypeDesc.func #[28,74] #[] Bool.false),1,8,Value.nilFunc,none⟩),
 (78,⟨(TypeDesc.func #[28,3] #[28] Bool.false),1,8,Value.nilFunc,none⟩),
 (79,⟨(TypeDesc.func #[28,3] #[4] Bool.false),1,8,Value.nilFunc,none⟩),
 (80,⟨(TypeDesc.func #[57,4] #[3] Bool.false),1,8,Value.nilFunc,none⟩),
 (81,⟨(TypeDesc.func #[3,34] #[4] Bool.false),1,8,Value.nilFunc,none⟩),
 (82,⟨(TypeDesc.func #[28,65] #[3] Bool.false),1,8,Value.nilFunc,none⟩),
 (83,⟨(TypeDesc.array 3 3),3,24,(Value.agg #[zI,zI,zI]),some cr⟩),
 (84,⟨(TypeDesc.func #[30] #[83] Bool.false),1,8,Value.nilFunc,none⟩),
 (85,⟨(TypeDesc.func #[83] #[30] Bool.false),1,8,Value.nilFunc,none⟩),
 (86,⟨(TypeDesc.func #[47,60] #[3] Bool.false),1,8,Value.nilFunc,none⟩),
 (87,⟨(TypeDesc.func #[3,28] #[4] Bool.true),1,8,Value.nilFunc,none⟩),
 (88,⟨(TypeDesc.func #[28] #[3] Bool.true),1,8,Value.nilFunc,none⟩),
 (89,⟨(TypeDesc.func #[3] #[3] Bool.false),1,8,Value.nilFunc,none⟩),
 (90,⟨(TypeDesc.func #[28,3,3,3,74] #[] Bool.false),1,8,Value.nilFunc,none⟩),
 (91,⟨(TypeDesc.func #[92] #[3] Bool.false),1,8,Value.nilFunc,none⟩),
 (92,⟨(TypeDesc.int IntKind.u64),1,8,(Value.int IntKind.u64 (0:Int)),some (.int .u64)⟩),
 (94,⟨(TypeDesc.func #[92,92] #[92,92] Bool.false),1,8,Value.nilFunc,none⟩),
 (95,⟨(TypeDesc.func #[28,3] #[3] Bool.false),1,8,Value.nilFunc,none⟩),
 (96,⟨(TypeDesc.func #[28,3,3,74] #[] Bool.false),1,8,Value.nilFunc,none⟩),
 (97,⟨(TypeDesc.int IntKind.i64),1,8,zI,some yi⟩),
 (99,⟨(TypeDesc.func #[28,3,3,74] #[3,97] Bool.false),1,8,Value.nilFunc,none⟩),
 (100,⟨(TypeDesc.func #[28,3,3,74] #[4] Bool.false),1,8,Value.nilFunc,none⟩),
 (101,⟨(TypeDesc.func #[28,3,3,3,74] #[3] Bool.false),1,8,Value.nilFunc,none⟩),
 (103,⟨(TypeDesc.func #[28,3,3,3,74] #[3,4] Bool.false),1,8,Value.nilFunc,none⟩),
 (104,⟨(TypeDesc.func #[105] #[3] Bool.false),1,8,Value.nilFunc,none⟩),
 (105,⟨(TypeDesc.int IntKind.u32),1,4,(Value.int IntKind.u32 (0:Int)),some (.int .u32)⟩),
 (106,⟨(TypeDesc.func #[107] #[3] Bool.false),1,8,Value.nilFunc,none⟩),
 (107,⟨(TypeDesc.int IntKind.u64),1,8,(Value.int IntKind.u64 (0:Int)),some (.int .u64)⟩),
 (109,⟨(TypeDesc.func #[105,105] #[105,105] Bool.false),1,8,Value.nilFunc,none⟩),
 (111,⟨(TypeDesc.func #[107,107] #[107,107] Bool.false),1,8,Value.nilFunc,none⟩),
 (112,⟨(TypeDesc.int IntKind.u64),1,8,(Value.int IntKind.u64 (0:Int)),some (.int .u64)⟩),
 (113,⟨(TypeDesc.func #[3] #[92] Bool.false),1,8,Value.nilFunc,none⟩),
 (114,⟨(TypeDesc.func #[] #[107] Bool.false),1,8,Value.nilFunc,none⟩),
 (115,⟨(TypeDesc.func #[28,3,116,74] #[3] Bool.false),1,8,Value.nilFunc,none⟩),
 (116,⟨(TypeDesc.pointer 3),1,8,(Value.pointer Option.none),none⟩),
 (117,⟨(TypeDesc.func #[28,3,3,3,116,74] #[3] Bool.false),1,8,Value.nilFunc,none⟩),
 (118,⟨(TypeDesc.pointer 112),1,8,(Value.pointer Option.none),none⟩),
 (120,⟨(TypeDesc.func #[28,3,3,116,74] #[3,3] Bool.false),1,8,Value.nilFunc,none⟩),
 (121,⟨(TypeDesc.func #[] #[9] Bool.false),1,8,Value.nilFunc,none⟩),
 (127,⟨(TypeDesc.func #[] #[3] Bool.false),1,8,Value.nilFunc,none⟩),
 (128,⟨(TypeDesc.int IntKind.u8),1,1,(Value.int IntKind.u8 (0:Int)),some (.int .u8)⟩),
 (129,⟨(TypeDesc.int IntKind.u8),1,1,(Value.int IntKind.u8 (0:Int)),some (.int .u8)⟩),
 (130,⟨(TypeDesc.func #[136,136] #[4] Bool.false),1,8,Value.nilFunc,none⟩),
 (131,⟨(TypeDesc.pointer 5),1,8,(Value.pointer Option.none),none⟩),
 (132,⟨(TypeDesc.int IntKind.i32),1,4,(Value.int IntKind.i32 (0:Int)),some (.int .i32)⟩),
 (133,⟨(TypeDesc.int IntKind.i32),1,4,(Value.int IntKind.i32 (0:Int)),some (.int .i32)⟩),
 (136,⟨TypeDesc.unsafePointer,1,8,(Value.pointer Option.none),none⟩)]
set_option maxRecDepth 100000 in
theorem aQ:br Try.prog tt:=
 br.cons (by kernel_rfl) (by decide) (by kernel_rfl) (by kernel_rfl) (
 br.cons (by kernel_rfl) (by decide) (by kernel_rfl) (by kernel_rfl) (
 br.cons (by kernel_rfl) (by decide) (by kernel_rfl) (by kernel_rfl) (
 br.cons (by kernel_rfl) (by decide) (by kernel_rfl) (by kernel_rfl) (
 br.cons (by kernel_rfl) (by decide) (by kernel_rfl) (by kernel_rfl) (
 br.cons (by kernel_rfl) (by decide) (by kernel_rfl) (by kernel_rfl) (
 br.cons (by kernel_rfl) (by decide) (by kernel_rfl) (by kernel_rfl) (
 br.cons (by kernel_rfl) (by decide) (by kernel_rfl) (by kernel_rfl) (
 br.cons (by kernel_rfl) (by decide) (by kernel_rfl) (by kernel_rfl) (
 br.cons (by kernel_rfl) (by decide) (by kernel_rfl) (by kernel_rfl) (
 br.cons (by kernel_rfl) (by decide) (by kernel_rfl) (by kernel_rfl) (
 br.cons (by kernel_rfl) (by decide) (by kernel_rfl) (by kernel_rfl) (
 br.cons (by kernel_rfl) (by decide) (by kernel_rfl) (by kernel_rfl) (
 br.cons (by kernel_rfl) (by decide) (by kernel_rfl) (by kernel_rfl) (
 br.cons (by kernel_rfl) (by decide) (by kernel_rfl) (by kernel_rfl) (
 br.cons (by kernel_rfl) (by decide) (by kernel_rfl) (by kernel_rfl) (
 br.cons (by kernel_rfl) (by decide) (by kernel_rfl) (by kernel_rfl) (
 br.cons (by kernel_rfl) (by decide) (by kernel_rfl) (by kernel_rfl) (
 br.cons (by kernel_rfl) (by decide) (by kernel_rfl) (by kernel_rfl) (
 br.cons (by kernel_rfl) (by decide) (by kernel_rfl) (by kernel_rfl) (
 br.cons (by kernel_rfl) (by decide) (by kernel_rfl) (by kernel_rfl) (
 br.cons (by kernel_rfl) (by decide) (by kernel_rfl) (by kernel_rfl) (
 br.cons (by kernel_rfl) (by decide) (by kernel_rfl) (by kernel_rfl) (
 br.cons (by kernel_rfl) (by decide) (by kernel_rfl) (by kernel_rfl) (
 br.cons (by kernel_rfl) (by decide) (by kernel_rfl) (by kernel_rfl) (
 br.cons (by kernel_rfl) (by decide) (by kernel_rfl) (by kernel_rfl) (
 br.cons (by kernel_rfl) (by decide) (by kernel_rfl) (by kernel_rfl) (
 br.cons (by kernel_rfl) (by decide) (by kernel_rfl) (by kernel_rfl) (
 br.cons (by kernel_rfl) (by decide) (by kernel_rfl) (by kernel_rfl) (
 br.cons (by kernel_rfl) (by decide) (by kernel_rfl) (by kernel_rfl) (
 br.cons (by kernel_rfl) (by decide) (by kernel_rfl) (by kernel_rfl) (
 br.cons (by kernel_rfl) (by decide) (by kernel_rfl) (by kernel_rfl) (
 br.cons (by kernel_rfl) (by decide) (by kernel_rfl) (by kernel_rfl) (
 br.cons (by kernel_rfl) (by decide) (by kernel_rfl) (by kernel_rfl) (
 br.cons (by kernel_rfl) (by decide) (by kernel_rfl) (by kernel_rfl) (
 br.cons (by kernel_rfl) (by decide) (by kernel_rfl) (by kernel_rfl) (
 br.cons (by kernel_rfl) (by decide) (by kernel_rfl) (by kernel_rfl) (
 br.cons (by kernel_rfl) (by decide) (by kernel_rfl) (by kernel_rfl) (
 br.cons (by kernel_rfl) (by decide) (by kernel_rfl) (by kernel_rfl) (
 br.cons (by kernel_rfl) (by decide) (by kernel_rfl) (by kernel_rfl) (
 br.cons (by kernel_rfl) (by decide) (by kernel_rfl) (by kernel_rfl) (
 br.cons (by kernel_rfl) (by decide) (by kernel_rfl) (by kernel_rfl) (
 br.cons (by kernel_rfl) (by decide) (by kernel_rfl) (by kernel_rfl) (
 br.cons (by kernel_rfl) (by decide) (by kernel_rfl) (by kernel_rfl) (
 br.cons (by kernel_rfl) (by decide) (by kernel_rfl) (by kernel_rfl) (
 br.cons (by kernel_rfl) (by decide) (by kernel_rfl) (by kernel_rfl) (
 br.cons (by kernel_rfl) (by decide) (by kernel_rfl) (by kernel_rfl) (
 br.cons (by kernel_rfl) (by decide) (by kernel_rfl) (by kernel_rfl) (
 br.cons (by kernel_rfl) (by decide) (by kernel_rfl) (by kernel_rfl) (
 br.cons (by kernel_rfl) (by decide) (by kernel_rfl) (by kernel_rfl) (
 br.cons (by kernel_rfl) (by decide) (by kernel_rfl) (by kernel_rfl) (
 br.cons (by kernel_rfl) (by decide) (by kernel_rfl) (by kernel_rfl) (
 br.cons (by kernel_rfl) (by decide) (by kernel_rfl) (by kernel_rfl) (
 br.cons (by kernel_rfl) (by decide) (by kernel_rfl) (by kernel_rfl) (
 br.cons (by kernel_rfl) (by decide) (by kernel_rfl) (by kernel_rfl) (
 br.cons (by kernel_rfl) (by decide) (by kernel_rfl) (by kernel_rfl) (
 br.cons (by kernel_rfl) (by decide) (by kernel_rfl) (by kernel_rfl) (
 br.cons (by kernel_rfl) (by decide) (by kernel_rfl) (by kernel_rfl) (
 br.cons (by kernel_rfl) (by decide) (by kernel_rfl) (by kernel_rfl) (
 br.cons (by kernel_rfl) (by decide) (by kernel_rfl) (by kernel_rfl) (
 br.cons (by kernel_rfl) (by decide) (by kernel_rfl) (by kernel_rfl) (
 br.cons (by kernel_rfl) (by decide) (by kernel_rfl) (by kernel_rfl) (
 br.cons (by kernel_rfl) (by decide) (by kernel_rfl) (by kernel_rfl) (
 br.cons (by kernel_rfl) (by decide) (by kernel_rfl) (by kernel_rfl) (
 br.cons (by kernel_rfl) (by decide) (by kernel_rfl) (by kernel_rfl) (
 br.cons (by kernel_rfl) (by decide) (by kernel_rfl) (by kernel_rfl) (
 br.cons (by kernel_rfl) (by decide) (by kernel_rfl) (by kernel_rfl) (
 br.cons (by kernel_rfl) (by decide) (by kernel_rfl) (by kernel_rfl) (
 br.cons (by kernel_rfl) (by decide) (by kernel_rfl) (by kernel_rfl) (
 br.cons (by kernel_rfl) (by decide) (by kernel_rfl) (by kernel_rfl) (
 br.cons (by kernel_rfl) (by decide) (by kernel_rfl) (by kernel_rfl) (
 br.cons (by kernel_rfl) (by decide) (by kernel_rfl) (by kernel_rfl) (
 br.cons (by kernel_rfl) (by decide) (by kernel_rfl) (by kernel_rfl) (
 br.cons (by kernel_rfl) (by decide) (by kernel_rfl) (by kernel_rfl) (
 br.cons (by kernel_rfl) (by decide) (by kernel_rfl) (by kernel_rfl) (
 br.cons (by kernel_rfl) (by decide) (by kernel_rfl) (by kernel_rfl) (
 br.cons (by kernel_rfl) (by decide) (by kernel_rfl) (by kernel_rfl) (
 br.cons (by kernel_rfl) (by decide) (by kernel_rfl) (by kernel_rfl) (
 br.cons (by kernel_rfl) (by decide) (by kernel_rfl) (by kernel_rfl) (
 br.cons (by kernel_rfl) (by decide) (by kernel_rfl) (by kernel_rfl) (
 br.cons (by kernel_rfl) (by decide) (by kernel_rfl) (by kernel_rfl) (
 br.cons (by kernel_rfl) (by decide) (by kernel_rfl) (by kernel_rfl) (
 br.cons (by kernel_rfl) (by decide) (by kernel_rfl) (by kernel_rfl) (
 br.cons (by kernel_rfl) (by decide) (by kernel_rfl) (by kernel_rfl) (
 br.cons (by kernel_rfl) (by decide) (by kernel_rfl) (by kernel_rfl) (
 br.cons (by kernel_rfl) (by decide) (by kernel_rfl) (by kernel_rfl) (
 br.cons (by kernel_rfl) (by decide) (by kernel_rfl) (by kernel_rfl) (
 br.cons (by kernel_rfl) (by decide) (by kernel_rfl) (by kernel_rfl) (
 br.cons (by kernel_rfl) (by decide) (by kernel_rfl) (by kernel_rfl) (
 br.cons (by kernel_rfl) (by decide) (by kernel_rfl) (by kernel_rfl) (
 br.cons (by kernel_rfl) (by decide) (by kernel_rfl) (by kernel_rfl) (
 br.cons (by kernel_rfl) (by decide) (by kernel_rfl) (by kernel_rfl) (
 br.cons (by kernel_rfl) (by decide) (by kernel_rfl) (by kernel_rfl) (
 br.cons (by kernel_rfl) (by decide) (by kernel_rfl) (by kernel_rfl) (
 br.cons (by kernel_rfl) (by decide) (by kernel_rfl) (by kernel_rfl) (
 br.cons (by kernel_rfl) (by decide) (by kernel_rfl) (by kernel_rfl) (
 br.cons (by kernel_rfl) (by decide) (by kernel_rfl) (by kernel_rfl) (
 br.cons (by kernel_rfl) (by decide) (by kernel_rfl) (by kernel_rfl) (
 br.cons (by kernel_rfl) (by decide) (by kernel_rfl) (by kernel_rfl) (
 br.cons (by kernel_rfl) (by decide) (by kernel_rfl) (by kernel_rfl) (
 br.cons (by kernel_rfl) (by decide) (by kernel_rfl) (by kernel_rfl) (
 br.cons (by kernel_rfl) (by decide) (by kernel_rfl) (by kernel_rfl) (
 br.cons (by kernel_rfl) (by decide) (by kernel_rfl) (by kernel_rfl) (
 br.cons (by kernel_rfl) (by decide) (by kernel_rfl) (by kernel_rfl) (
 br.cons (by kernel_rfl) (by decide) (by kernel_rfl) (by kernel_rfl) (
 br.cons (by kernel_rfl) (by decide) (by kernel_rfl) (by kernel_rfl) (
 br.cons (by kernel_rfl) (by decide) (by kernel_rfl) (by kernel_rfl) (
 br.cons (by kernel_rfl) (by decide) (by kernel_rfl) (by kernel_rfl) (
 br.cons (by kernel_rfl) (by decide) (by kernel_rfl) (by kernel_rfl) (
 br.cons (by kernel_rfl) (by decide) (by kernel_rfl) (by kernel_rfl) (
 br.cons (by kernel_rfl) (by decide) (by kernel_rfl) (by kernel_rfl) (
 br.cons (by kernel_rfl) (by decide) (by kernel_rfl) (by kernel_rfl) (
 br.nil))))))))))))))))))))))))))))))))))))))))))))))))))))))))))))))))))))))))))))))))))))))))))))))))))))))))))))))))
theorem mixed:Try.prog.follows .mixedOrders=true:=by kernel_rfl
end Go.Proofs.Ytaipcbdilkcdbaa
namespace Go.Proofs.Ytaipcbdilkcdbaa
open Go Go.Ev Go.Proofs
def isNaN (x:Int):Bool:=
 (x !=x)
def Mq (_:Int):Prop:=True
def RE (x:Int):Tr Bool false:=
 (.ret (x !=x))
abbrev vI:jh:=⟨(.one yi),(.one Ty.bool),Mq,isNaN⟩
theorem OY:av Try.prog 55 (aH vI):=av.tr vI RE (fn:=Try.f55) aQ (ah.nil _) mixed (by kernel_rfl) (aD.nil _ _) (fun x=>aB.nil) (fun x=>(by kernel_rfl)) fun x Q=>(by kernel_rfl)
def HJ:List (Nat×Ev.Spec):=(55,aH vI):: []
theorem y8:ah Try.prog HJ:=ah.add (fn:=Try.f55) (by kernel_rfl) OY (ah.nil _)
def compare (x:I2):Int:=
 (ai (isNaN x.1) fun y=>
 (ai (isNaN x.2) fun aq=>
 (if (y=true) then
 (if (aq=true) then
 (0:Int) else
 (-1:Int)) else
 (if (aq=true) then
 (1:Int) else
 (if (x.1<x.2) then
 (-1:Int) else
 (if (x.1>x.2) then
 (1:Int) else
 (0:Int)))))))
def F1 (_:I2):Prop:=True
def LK (x:I2):Tr Int false:=
 (.fn0 vI x.1 trivial fun y=>
 (.fn0 vI x.2 trivial fun aq=>
 (.CA y
 (.CA aq
 (.ret z0)
 (.ret (-1:Int)))
 (.CA aq
 (.ret z1)
 (.Ii (x.1<x.2)
 (.ret (-1:Int))
 (.Ii (x.1>x.2)
 (.ret z1)
 (.ret z0)))))))
abbrev oZ:jh:=⟨(.pair (.one yi) (.one yi)),(.one yi),F1,compare⟩
theorem IB:av Try.prog 49 (aH oZ):=av.tr oZ LK (fn:=Try.f49) aQ y8 mixed (by kernel_rfl) (aD.nil _ _) (fun x=>aB.nil) (fun x=>(by kernel_rfl)) fun x Q=>(by kernel_rfl)
def B5:List (Nat×Ev.Spec):=(49,aH oZ)::HJ
theorem oL:ah Try.prog B5:=ah.add (fn:=Try.f49) (by kernel_rfl) IB y8
def F0 (x:(List Int)):aS:=⟨[],⟨ej 18 0 [(3,.v (.one (.i .i64))),(6,.v (.one (.full 0))),(7,.v (.one (.i .i64))),(8,.v (.one (.i .i64)))],[.row yi 0],0,none,[],[0,1,3],[2],[.i],[.i (0:Int),.i (x.length:Int),.l yi x]⟩,[⟨.ret,.ret,⟨ej 18 0 [(2,.v (.one (.i .i64)))],[],0,none,[],[],[0],[.i],[]⟩⟩,⟨(.exit 0),.normal,⟨ej 18 0 [(3,.v (.one (.i .i64)))],[],0,none,[],[0],[],[],[.i (0:Int)]⟩⟩]⟩
def dP (x:(List Int)) (s:Int):Int⊕(Int⊕Unit):=
 (if (s<(x.length:Int)) then
 (if (((List.getD x (Int.toNat s) (0:Int)) !=(0:Int))=true) then
 (Sum.inr (Sum.inl (List.getD x (Int.toNat s) (0:Int)))) else
 (Sum.inl (ae (s+(1:Int))))) else
 (Sum.inr (Sum.inr (()))))
def fJ (x:(List Int)) (s:Int):Prop:=
 ((s<(x.length:Int))->
 ((((0:Int)<=s)/\ (s<(x.length:Int)))/\
 (((Int.toNat s)<(List.length x))/\
 ((Int.toNat s)<(List.length x)))))
def Au (x:(List Int)) (s:Int):Tr (Int⊕(Int⊕Unit)) true:=
 (.i10 (s<(nL x))
 (.cf s x
 (.CA ((gI x s) !=z0)
 (.ret (.inr (Sum.inl (gI x s))))
 (.ret (.inl (w1 s)))))
 (.ret (.inr (Sum.inr (())))))
def Kg (x:(List Int)):Int:=
 (ai (run (dP x) (0:Int)) fun r=>
 (Sum.elim (fun a=>
 a) (fun b=>
 (0:Int)) r))
def xq (x:(List Int)):Prop:=
 (Term (dP x) (fJ x) (0:Int))
def Rc (x:(List Int)):Tr Int true:=
 (aS.lp (F0 x) (Au x) z0 fun r=>
 (.QT r (fun a=>
 (.ret a)) (fun b=>
 (.ret z0))))
abbrev zO:jh:=⟨(.one (Ty.sl yi)),(.one yi),xq,Kg⟩
theorem NT:av Try.prog 48 (aH zO):=av.tr zO Rc (fn:=Try.f48) aQ oL mixed (by kernel_rfl) (aD.nil _ _) (fun x=>(aB.tr aQ (ah.fe oL (aD.nil _ _)) mixed 0 (F0 x) (Au x) aB.nil (by kernel_rfl) fun g s Q=>(by kernel_rfl))) (fun x=>(by kernel_rfl)) fun x Q=>(by kernel_rfl)
def HD:List (Nat×Ev.Spec):=(48,aH zO)::B5
theorem r6:ah Try.prog HD:=ah.add (fn:=Try.f48) (by kernel_rfl) NT oL
def middle (x:(((List I9)×Int)×Int)):Int:=
 (ae ((ae ((ae ((0:Int)+(List.getD [(List.getD x.1.1 (Int.toNat x.2) (((0:Int),((0:Int),(0:Int))),(((0:Int),((0:Int),(0:Int))),((0:Int),((0:Int),(0:Int)))))).1.1,(List.getD x.1.1 (Int.toNat x.2) (((0:Int),((0:Int),(0:Int))),(((0:Int),((0:Int),(0:Int))),((0:Int),((0:Int),(0:Int)))))).1.2.1,(List.getD x.1.1 (Int.toNat x.2) (((0:Int),((0:Int),(0:Int))),(((0:Int),((0:Int),(0:Int))),((0:Int),((0:Int),(0:Int)))))).1.2.2] ((Int.toNat x.1.2)*1) (0:Int))))+(List.getD [(List.getD x.1.1 (Int.toNat x.2) (((0:Int),((0:Int),(0:Int))),(((0:Int),((0:Int),(0:Int))),((0:Int),((0:Int),(0:Int)))))).2.1.1,(List.getD x.1.1 (Int.toNat x.2) (((0:Int),((0:Int),(0:Int))),(((0:Int),((0:Int),(0:Int))),((0:Int),((0:Int),(0:Int)))))).2.1.2.1,(List.getD x.1.1 (Int.toNat x.2) (((0:Int),((0:Int),(0:Int))),(((0:Int),((0:Int),(0:Int))),((0:Int),((0:Int),(0:Int)))))).2.1.2.2] ((Int.toNat x.1.2)*1) (0:Int))))+(List.getD [(List.getD x.1.1 (Int.toNat x.2) (((0:Int),((0:Int),(0:Int))),(((0:Int),((0:Int),(0:Int))),((0:Int),((0:Int),(0:Int)))))).2.2.1,(List.getD x.1.1 (Int.toNat x.2) (((0:Int),((0:Int),(0:Int))),(((0:Int),((0:Int),(0:Int))),((0:Int),((0:Int),(0:Int)))))).2.2.2.1,(List.getD x.1.1 (Int.toNat x.2) (((0:Int),((0:Int),(0:Int))),(((0:Int),((0:Int),(0:Int))),((0:Int),((0:Int),(0:Int)))))).2.2.2.2] ((Int.toNat x.1.2)*1) (0:Int))))
def mY (x:(((List I9)×Int)×Int)):Prop:=
 ((((0:Int)<=x.2)/\ (x.2<(x.1.1.length:Int)))/\
 (((Int.toNat x.2)<(List.length x.1.1))/\
 (((Int.toNat x.2)<(List.length x.1.1))/\
 ((((0:Int)<=x.1.2)/\ (x.1.2<(3:Int)))/\
 ((((0:Int)<=x.1.2)/\ (x.1.2<(3:Int)))/\
 (((0:Int)<=x.1.2)/\ (x.1.2<(3:Int))))))))
def Pg (x:(((List I9)×Int)×Int)):Tr Int true:=
 (.cf x.2 x.1.1
 (.oR x.1.2 (3:Int)
 (.oR x.1.2 (3:Int)
 (.oR x.1.2 (3:Int)
 (.ret (ae ((ae ((ae (z0+(List.getD [(gT x.1.1 x.2 Ls).1.1,(gT x.1.1 x.2 Ls).1.2.1,(gT x.1.1 x.2 Ls).1.2.2] ((tN x.1.2)*1) z0)))+(List.getD [(gT x.1.1 x.2 Ls).2.1.1,(gT x.1.1 x.2 Ls).2.1.2.1,(gT x.1.1 x.2 Ls).2.1.2.2] ((tN x.1.2)*1) z0)))+(List.getD [(gT x.1.1 x.2 Ls).2.2.1,(gT x.1.1 x.2 Ls).2.2.2.1,(gT x.1.1 x.2 Ls).2.2.2.2] ((tN x.1.2)*1) z0))))))))
abbrev rR:jh:=⟨(.pair (.agg (Ty.prod (Ty.sl cH) yi)) (.one yi)),(.one yi),mY,middle⟩
theorem MB:av Try.prog 50 (aH rR):=av.tr rR Pg (fn:=Try.f50) aQ r6 mixed (by kernel_rfl) (aD.nil _ _) (fun x=>(aB.Lp aQ (ah.fe r6 (aD.nil _ _)) mixed 0 4 aB.nil (by kernel_rfl))) (fun x=>(by kernel_rfl)) fun x Q=>(by kernel_rfl)
def Eg:List (Nat×Ev.Spec):=(50,aH rR)::HD
theorem wX:ah Try.prog Eg:=ah.add (fn:=Try.f50) (by kernel_rfl) MB r6
def j8 (x:(((List I9)×Int)×I2)):Int:=
 (ai (middle (x.1,x.2.1)) fun y=>
 (ai (middle (x.1,x.2.2)) fun aq=>
 (ai (compare (y,aq)) fun y_2=>
 (ai (compare x.2) fun au=>
 (ai (Kg [y_2,au]) fun aR=>
 aR)))))
def bO (x:(((List I9)×Int)×I2)):Prop:=
 ((mY (x.1,x.2.1))/\
 ay (middle (x.1,x.2.1)) fun y=>
 ((mY (x.1,x.2.2))/\
 ay (middle (x.1,x.2.2)) fun aq=>
 (ay (compare (y,aq)) fun y_2=>
 (ay (compare x.2) fun au=>
 (xq [y_2,au])))))
def VI (x:(((List I9)×Int)×I2)):Tr Int true:=
 (.fn rR (x.1,x.2.1) fun y=>
 (.fn rR (x.1,x.2.2) fun aq=>
 (.fn0 oZ (y,aq) trivial fun y_2=>
 (.fn0 oZ x.2 trivial fun au=>
 (.fn zO [y_2,au] fun aR=>
 (.ret aR))))))
abbrev dO:jh:=⟨(.pair (.agg (Ty.prod (Ty.sl cH) yi)) (.pair (.one yi) (.one yi))),(.one yi),bO,j8⟩
theorem TE:av Try.prog 37 (aH dO):=av.tr dO VI (fn:=Try.f37) aQ wX mixed (by kernel_rfl) (aD.nil _ _) (fun x=>aB.nil) (fun x=>(by kernel_rfl)) fun x Q=>(by kernel_rfl)
def Qm:List (Nat×Ev.Spec):=(37,aH dO)::Eg
theorem x5:ah Try.prog Qm:=ah.add (fn:=Try.f37) (by kernel_rfl) TE wX
abbrev uc:mF:= .mv 37 true (.prod (.sl (.prod (.prod (.int .i64) (.prod (.int .i64) (.int .i64))) (.prod (.prod (.int .i64) (.prod (.int .i64) (.int .i64))) (.prod (.int .i64) (.prod (.int .i64) (.int .i64)))))) (.int .i64))
abbrev RT:Type:=List I9×Int
end Go.Proofs.Ytaipcbdilkcdbaa
