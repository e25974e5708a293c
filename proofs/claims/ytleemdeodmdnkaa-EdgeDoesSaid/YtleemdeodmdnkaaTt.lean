/- The types of this translation, as the evaluator wants them. -/
import Derived.Test.YtleemdeodmdnkaaEvR
import Derived.Test.YtleemdeodmdnkaaChecked
noncomputable section
set_option linter.unusedSectionVars false
set_option linter.unusedVariables false
set_option linter.unusedSimpArgs false
namespace Go.Proofs.Ytleemdeodmdnkaa
open Go Go.Ev Go.Proofs
abbrev z0 : Int := 0
abbrev z1 : Int := 1
abbrev tN (i:Int) : Nat := Int.toNat i
abbrev gI (l : List Int) (i:Int) : Int := List.getD l (Int.toNat i) (0:Int)
abbrev gT {α : Type} (l : List α) (i:Int) (d : α) : α := List.getD l (Int.toNat i) d
abbrev nL {α : Type} (l : List α) : Int := ((List.length l:Nat):Int)
abbrev _root_.Go.Ev.Tr.oI1 {τ α : Type} {i : Bool} (j:Int) (l : List α) (t : Tr τ i) : Tr τ true := .oR j ((List.length l:Nat):Int) (.od (Int.toNat j < List.length l) t)
abbrev _root_.Go.Ev.Tr.oI2 {τ α : Type} {i : Bool} (j:Int) (l : List α) (t : Tr τ i) : Tr τ true := .oR j ((List.length l:Nat):Int) (.od (Int.toNat j < List.length l) (.od (Int.toNat j < List.length l) t))
abbrev _root_.Go.Ev.Tr.oI3 {τ α : Type} {i : Bool} (j:Int) (l : List α) (t : Tr τ i) : Tr τ true := .oR j ((List.length l:Nat):Int) (.od (Int.toNat j < List.length l) (.od (Int.toNat j < List.length l) (.od (Int.toNat j < List.length l) t)))
abbrev w1 (i:Int) : Int := w64 (i + (1:Int))
abbrev wm (i:Int) : Int := w64 (i - (1:Int))
abbrev zI : Value := Value.int IntKind.i64 0
def tt : List (Nat × TI) :=
 [(1,⟨(TypeDesc.func #[] #[] Bool.false),1,8,Value.nilFunc,none⟩),
 (2,⟨(TypeDesc.int IntKind.i64),1,8,zI,some yi⟩),
 (3,⟨(TypeDesc.int IntKind.i64),1,8,zI,some yi⟩),
 (4,⟨TypeDesc.bool,1,1,(Value.bool Bool.false),some .bool⟩),
 (5,⟨(TypeDesc.int IntKind.u8),1,1,(Value.int IntKind.u8 (0:Int)),some (.int .u8)⟩),
 (6,⟨(TypeDesc.int IntKind.u8),1,1,(Value.int IntKind.u8 (0:Int)),some (.int .u8)⟩),
 (7, ⟨(TypeDesc.struct #[(Field.mk "x" 2 0 Bool.false "" "runtime" 0), (Field.mk "y" 3 1 Bool.false "" "runtime" 8), (Field.mk "signed" 4 2 Bool.false "" "runtime" 16), (Field.mk "code" 6 3 Bool.false "" "runtime" 17)]), 4, 24, (Value.agg #[zI, zI, (Value.bool Bool.false), (Value.int IntKind.u8 (0 : Int))]), some (.prod yi (.prod yi (.prod .bool (.int .u8))))⟩),
 (8, ⟨(TypeDesc.struct #[(Field.mk "x" 2 0 Bool.false "" "runtime" 0), (Field.mk "y" 3 1 Bool.false "" "runtime" 8), (Field.mk "signed" 4 2 Bool.false "" "runtime" 16), (Field.mk "code" 6 3 Bool.false "" "runtime" 17)]), 4, 24, (Value.agg #[zI, zI, (Value.bool Bool.false), (Value.int IntKind.u8 (0 : Int))]), some (.prod yi (.prod yi (.prod .bool (.int .u8))))⟩),
 (9,⟨TypeDesc.string,1,16,(Value.string (ByteArray.mk #[])),some .str⟩),
 (10,⟨TypeDesc.string,1,16,(Value.string (ByteArray.mk #[])),some .str⟩),
 (11,⟨TypeDesc.string,1,16,(Value.string (ByteArray.mk #[])),some .str⟩),
 (12,⟨(TypeDesc.int IntKind.u64),1,8,(Value.int IntKind.u64 (0:Int)),some (.int .u64)⟩),
 (15,⟨(TypeDesc.pointer 129),1,8,(Value.pointer Option.none),none⟩),
 (16,⟨(TypeDesc.pointer 132),1,8,(Value.pointer Option.none),none⟩),
 (17,⟨(TypeDesc.pointer 141),1,8,(Value.pointer Option.none),none⟩),
 (21,⟨(TypeDesc.int IntKind.i32),1,4,(Value.int IntKind.i32 (0:Int)),some (.int .i32)⟩),
 (22,⟨(TypeDesc.slice 86),1,24,(Value.slice Option.none 0 0),some (.sl yy3)⟩),
 (23,⟨(TypeDesc.slice 89),1,24,(Value.slice Option.none 0 0),some (.sl yy2)⟩),
 (24,⟨(TypeDesc.slice 51),1,24,(Value.slice Option.none 0 0),some (.sl yy9)⟩),
 (25, ⟨(TypeDesc.struct #[(Field.mk "V" 22 0 false "" "" 0), (Field.mk "T" 23 1 false "" "" 24), (Field.mk "N" 22 2 false "" "" 48), (Field.mk "Tris" 24 3 false "" "" 72)]), 4, 96, (Value.agg #[(Value.slice Option.none 0 0), (Value.slice Option.none 0 0), (Value.slice Option.none 0 0), (Value.slice Option.none 0 0)]), some (.prod (.sl yy3) (.prod (.sl yy2) (.prod (.sl yy3) (.sl yy9))))⟩),
 (26, ⟨(TypeDesc.struct #[(Field.mk "V" 22 0 false "" "" 0), (Field.mk "T" 23 1 false "" "" 24), (Field.mk "N" 22 2 false "" "" 48), (Field.mk "Tris" 24 3 false "" "" 72)]), 4, 96, (Value.agg #[(Value.slice Option.none 0 0), (Value.slice Option.none 0 0), (Value.slice Option.none 0 0), (Value.slice Option.none 0 0)]), some (.prod (.sl yy3) (.prod (.sl yy2) (.prod (.sl yy3) (.sl yy9))))⟩),
 (27,⟨(TypeDesc.slice 39),1,24,(Value.slice Option.none 0 0),some (.sl (.prod yi (.prod yi (.sl yi))))⟩),
 (28,⟨(TypeDesc.func #[26] #[4] Bool.false),1,8,Value.nilFunc,none⟩),
 (29,⟨(TypeDesc.func #[27] #[4] Bool.false),1,8,Value.nilFunc,none⟩),
 (30,⟨(TypeDesc.func #[27] #[27] Bool.false),1,8,Value.nilFunc,none⟩),
 (31,⟨(TypeDesc.int IntKind.i64),1,8,zI,some yi⟩),
 (33,⟨(TypeDesc.func #[26] #[27,31] Bool.false),1,8,Value.nilFunc,none⟩),
 (34,⟨(TypeDesc.slice 3),1,24,(Value.slice Option.none 0 0),some (.sl yi)⟩),
 (36,⟨(TypeDesc.func #[26,3] #[34,31] Bool.false),1,8,Value.nilFunc,none⟩),
 (37,⟨(TypeDesc.func #[26] #[34,31] Bool.false),1,8,Value.nilFunc,none⟩),
 (38, ⟨(TypeDesc.struct #[(Field.mk "A" 3 0 false "" "" 0), (Field.mk "B" 3 1 false "" "" 8), (Field.mk "Tris" 34 2 false "" "" 16)]), 3, 40, (Value.agg #[zI, zI, (Value.slice Option.none 0 0)]), some (.prod yi (.prod yi (.sl yi)))⟩),
 (39, ⟨(TypeDesc.struct #[(Field.mk "A" 3 0 false "" "" 0), (Field.mk "B" 3 1 false "" "" 8), (Field.mk "Tris" 34 2 false "" "" 16)]), 3, 40, (Value.agg #[zI, zI, (Value.slice Option.none 0 0)]), some (.prod yi (.prod yi (.sl yi)))⟩),
 (41,⟨(TypeDesc.func #[27,3,3] #[39,4] Bool.false),1,8,Value.nilFunc,none⟩),
 (42,⟨(TypeDesc.func #[27,27] #[4] Bool.false),1,8,Value.nilFunc,none⟩),
 (43,⟨(TypeDesc.func #[34,34] #[4] Bool.false),1,8,Value.nilFunc,none⟩),
 (44,⟨(TypeDesc.func #[27] #[] Bool.false),1,8,Value.nilFunc,none⟩),
 (45,⟨(TypeDesc.func #[] #[4] Bool.false),1,8,Value.nilFunc,none⟩),
 (46,⟨(TypeDesc.func #[26,3,27,3,3] #[4] Bool.false),1,8,Value.nilFunc,none⟩),
 (47,⟨(TypeDesc.func #[34,3] #[4] Bool.false),1,8,Value.nilFunc,none⟩),
 (48,⟨(TypeDesc.func #[27,3,3] #[4] Bool.false),1,8,Value.nilFunc,none⟩),
 (49, ⟨(TypeDesc.struct #[(Field.mk "V" 3 0 false "" "" 0), (Field.mk "T" 3 1 false "" "" 8), (Field.mk "N" 3 2 false "" "" 16)]), 3, 24, (Value.agg #[zI, zI, zI]), some yy3⟩),
 (50, ⟨(TypeDesc.struct #[(Field.mk "V" 3 0 false "" "" 0), (Field.mk "T" 3 1 false "" "" 8), (Field.mk "N" 3 2 false "" "" 16)]), 3, 24, (Value.agg #[zI, zI, zI]), some yy3⟩),
 (51,⟨(TypeDesc.array 3 50),9,72,(Value.agg #[zI,zI,zI,zI,zI,zI,zI,zI,zI]),some yy9⟩),
 (52,⟨(TypeDesc.func #[3,3,3] #[51] Bool.false),1,8,Value.nilFunc,none⟩),
 (53,⟨(TypeDesc.func #[26,3,3,3] #[4] Bool.false),1,8,Value.nilFunc,none⟩),
 (54,⟨(TypeDesc.func #[39] #[39] Bool.false),1,8,Value.nilFunc,none⟩),
 (55,⟨(TypeDesc.map 58 34),1,8,(Value.map Option.none),none⟩),
 (56,⟨(TypeDesc.func #[26] #[55] Bool.false),1,8,Value.nilFunc,none⟩),
 (57,⟨(TypeDesc.array 2 3),2,16,(Value.agg #[zI,zI]),some yy2⟩),
 (58,⟨(TypeDesc.array 2 3),2,16,(Value.agg #[zI,zI]),some yy2⟩),
 (59,⟨(TypeDesc.func #[27,62] #[] Bool.false),1,8,Value.nilFunc,none⟩),
 (60,⟨(TypeDesc.func #[34] #[3] Bool.true),1,8,Value.nilFunc,none⟩),
 (61,⟨(TypeDesc.func #[3,3] #[3] Bool.false),1,8,Value.nilFunc,none⟩),
 (62,⟨(TypeDesc.func #[39,39] #[3] Bool.false),1,8,Value.nilFunc,none⟩),
 (63,⟨(TypeDesc.func #[51,3,3] #[4] Bool.false),1,8,Value.nilFunc,none⟩),
 (64,⟨(TypeDesc.func #[55,26,3] #[34] Bool.false),1,8,Value.nilFunc,none⟩),
 (65,⟨(TypeDesc.func #[26,3,3] #[4] Bool.false),1,8,Value.nilFunc,none⟩),
 (66,⟨(TypeDesc.func #[34,3] #[34] Bool.false),1,8,Value.nilFunc,none⟩),
 (67,⟨(TypeDesc.func #[27,68] #[3] Bool.false),1,8,Value.nilFunc,none⟩),
 (68,⟨(TypeDesc.func #[39] #[4] Bool.false),1,8,Value.nilFunc,none⟩),
 (69,⟨(TypeDesc.func #[22] #[4] Bool.true),1,8,Value.nilFunc,none⟩),
 (70,⟨(TypeDesc.func #[23] #[4] Bool.true),1,8,Value.nilFunc,none⟩),
 (71,⟨(TypeDesc.func #[3,3,4] #[4] Bool.false),1,8,Value.nilFunc,none⟩),
 (72,⟨(TypeDesc.func #[34] #[34] Bool.false),1,8,Value.nilFunc,none⟩),
 (73,⟨(TypeDesc.slice 58),1,24,(Value.slice Option.none 0 0),some (.sl yy2)⟩),
 (74,⟨(TypeDesc.func #[51] #[73] Bool.false),1,8,Value.nilFunc,none⟩),
 (75,⟨(TypeDesc.func #[27,3,3,3,62] #[] Bool.false),1,8,Value.nilFunc,none⟩),
 (76,⟨(TypeDesc.func #[77] #[3] Bool.false),1,8,Value.nilFunc,none⟩),
 (77,⟨(TypeDesc.int IntKind.u64),1,8,(Value.int IntKind.u64 (0:Int)),some (.int .u64)⟩),
 (78,⟨(TypeDesc.func #[3] #[4] Bool.false),1,8,Value.nilFunc,none⟩),
 (79,⟨(TypeDesc.func #[22] #[4] Bool.false),1,8,Value.nilFunc,none⟩),
 (80,⟨(TypeDesc.func #[23] #[4] Bool.false),1,8,Value.nilFunc,none⟩),
 (81,⟨(TypeDesc.func #[3,3,3] #[4] Bool.false),1,8,Value.nilFunc,none⟩),
 (82,⟨(TypeDesc.func #[34] #[] Bool.false),1,8,Value.nilFunc,none⟩),
 (84,⟨(TypeDesc.func #[77,77] #[77,77] Bool.false),1,8,Value.nilFunc,none⟩),
 (85, ⟨(TypeDesc.struct #[(Field.mk "X" 3 0 false "" "" 0), (Field.mk "Y" 3 1 false "" "" 8), (Field.mk "Z" 3 2 false "" "" 16)]), 3, 24, (Value.agg #[zI, zI, zI]), some yy3⟩),
 (86, ⟨(TypeDesc.struct #[(Field.mk "X" 3 0 false "" "" 0), (Field.mk "Y" 3 1 false "" "" 8), (Field.mk "Z" 3 2 false "" "" 16)]), 3, 24, (Value.agg #[zI, zI, zI]), some yy3⟩),
 (87,⟨(TypeDesc.func #[34] #[4] Bool.true),1,8,Value.nilFunc,none⟩),
 (88, ⟨(TypeDesc.struct #[(Field.mk "X" 3 0 false "" "" 0), (Field.mk "Y" 3 1 false "" "" 8)]), 2, 16, (Value.agg #[zI, zI]), some yy2⟩),
 (89, ⟨(TypeDesc.struct #[(Field.mk "X" 3 0 false "" "" 0), (Field.mk "Y" 3 1 false "" "" 8)]), 2, 16, (Value.agg #[zI, zI]), some yy2⟩),
 (90,⟨(TypeDesc.func #[27,3,3,62] #[] Bool.false),1,8,Value.nilFunc,none⟩),
 (91,⟨(TypeDesc.int IntKind.i64),1,8,zI,some yi⟩),
 (93,⟨(TypeDesc.func #[27,3,3,62] #[3,91] Bool.false),1,8,Value.nilFunc,none⟩),
 (94,⟨(TypeDesc.func #[27,3,3,62] #[4] Bool.false),1,8,Value.nilFunc,none⟩),
 (95,⟨(TypeDesc.func #[27,3,3,3,62] #[3] Bool.false),1,8,Value.nilFunc,none⟩),
 (97,⟨(TypeDesc.func #[27,3,3,3,62] #[3,4] Bool.false),1,8,Value.nilFunc,none⟩),
 (98,⟨(TypeDesc.func #[99] #[3] Bool.false),1,8,Value.nilFunc,none⟩),
 (99,⟨(TypeDesc.int IntKind.u32),1,4,(Value.int IntKind.u32 (0:Int)),some (.int .u32)⟩),
 (100,⟨(TypeDesc.func #[101] #[3] Bool.false),1,8,Value.nilFunc,none⟩),
 (101,⟨(TypeDesc.int IntKind.u64),1,8,(Value.int IntKind.u64 (0:Int)),some (.int .u64)⟩),
 (102,⟨(TypeDesc.func #[86] #[4] Bool.false),1,8,Value.nilFunc,none⟩),
 (103,⟨(TypeDesc.func #[89] #[4] Bool.false),1,8,Value.nilFunc,none⟩),
 (104,⟨(TypeDesc.func #[34,3,3,3] #[] Bool.false),1,8,Value.nilFunc,none⟩),
 (106,⟨(TypeDesc.func #[99,99] #[99,99] Bool.false),1,8,Value.nilFunc,none⟩),
 (108,⟨(TypeDesc.func #[101,101] #[101,101] Bool.false),1,8,Value.nilFunc,none⟩),
 (109,⟨(TypeDesc.int IntKind.u64),1,8,(Value.int IntKind.u64 (0:Int)),some (.int .u64)⟩),
 (110,⟨(TypeDesc.func #[3] #[77] Bool.false),1,8,Value.nilFunc,none⟩),
 (111,⟨(TypeDesc.func #[] #[101] Bool.false),1,8,Value.nilFunc,none⟩),
 (112,⟨(TypeDesc.func #[27,3,113,62] #[3] Bool.false),1,8,Value.nilFunc,none⟩),
 (113,⟨(TypeDesc.pointer 3),1,8,(Value.pointer Option.none),none⟩),
 (114,⟨(TypeDesc.func #[27,3,3,3,113,62] #[3] Bool.false),1,8,Value.nilFunc,none⟩),
 (115,⟨(TypeDesc.func #[34,3,3] #[] Bool.false),1,8,Value.nilFunc,none⟩),
 (116,⟨(TypeDesc.func #[34,3,3] #[3,91] Bool.false),1,8,Value.nilFunc,none⟩),
 (117,⟨(TypeDesc.func #[34,3,3] #[4] Bool.false),1,8,Value.nilFunc,none⟩),
 (118,⟨(TypeDesc.func #[3,3] #[4] Bool.false),1,8,Value.nilFunc,none⟩),
 (119,⟨(TypeDesc.func #[34,3,3,3] #[3] Bool.false),1,8,Value.nilFunc,none⟩),
 (120,⟨(TypeDesc.func #[34,3,3,3] #[3,4] Bool.false),1,8,Value.nilFunc,none⟩),
 (121,⟨(TypeDesc.pointer 109),1,8,(Value.pointer Option.none),none⟩),
 (123,⟨(TypeDesc.func #[27,3,3,113,62] #[3,3] Bool.false),1,8,Value.nilFunc,none⟩),
 (124,⟨(TypeDesc.func #[34,3,113] #[3] Bool.false),1,8,Value.nilFunc,none⟩),
 (125,⟨(TypeDesc.func #[34,3,3,3,113] #[3] Bool.false),1,8,Value.nilFunc,none⟩),
 (126,⟨(TypeDesc.func #[34,3,3,113] #[3,3] Bool.false),1,8,Value.nilFunc,none⟩),
 (127,⟨(TypeDesc.func #[] #[9] Bool.false),1,8,Value.nilFunc,none⟩),
 (133,⟨(TypeDesc.func #[] #[3] Bool.false),1,8,Value.nilFunc,none⟩),
 (134,⟨(TypeDesc.int IntKind.u8),1,1,(Value.int IntKind.u8 (0:Int)),some (.int .u8)⟩),
 (135,⟨(TypeDesc.int IntKind.u8),1,1,(Value.int IntKind.u8 (0:Int)),some (.int .u8)⟩),
 (136,⟨(TypeDesc.func #[142,142] #[4] Bool.false),1,8,Value.nilFunc,none⟩),
 (137,⟨(TypeDesc.pointer 5),1,8,(Value.pointer Option.none),none⟩),
 (138,⟨(TypeDesc.int IntKind.i32),1,4,(Value.int IntKind.i32 (0:Int)),some (.int .i32)⟩),
 (139,⟨(TypeDesc.int IntKind.i32),1,4,(Value.int IntKind.i32 (0:Int)),some (.int .i32)⟩),
 (142,⟨TypeDesc.unsafePointer,1,8,(Value.pointer Option.none),none⟩)]
set_option maxRecDepth 100000 in
theorem tt_ok : TOk Try.prog tt :=
 TOk.cons (by kernel_rfl) (by decide) (by kernel_rfl) (by kernel_rfl) (
 TOk.cons (by kernel_rfl) (by decide) (by kernel_rfl) (by kernel_rfl) (
 TOk.cons (by kernel_rfl) (by decide) (by kernel_rfl) (by kernel_rfl) (
 TOk.cons (by kernel_rfl) (by decide) (by kernel_rfl) (by kernel_rfl) (
 TOk.cons (by kernel_rfl) (by decide) (by kernel_rfl) (by kernel_rfl) (
 TOk.cons (by kernel_rfl) (by decide) (by kernel_rfl) (by kernel_rfl) (
 TOk.cons (by kernel_rfl) (by decide) (by kernel_rfl) (by kernel_rfl) (
 TOk.cons (by kernel_rfl) (by decide) (by kernel_rfl) (by kernel_rfl) (
 TOk.cons (by kernel_rfl) (by decide) (by kernel_rfl) (by kernel_rfl) (
 TOk.cons (by kernel_rfl) (by decide) (by kernel_rfl) (by kernel_rfl) (
 TOk.cons (by kernel_rfl) (by decide) (by kernel_rfl) (by kernel_rfl) (
 TOk.cons (by kernel_rfl) (by decide) (by kernel_rfl) (by kernel_rfl) (
 TOk.cons (by kernel_rfl) (by decide) (by kernel_rfl) (by kernel_rfl) (
 TOk.cons (by kernel_rfl) (by decide) (by kernel_rfl) (by kernel_rfl) (
 TOk.cons (by kernel_rfl) (by decide) (by kernel_rfl) (by kernel_rfl) (
 TOk.cons (by kernel_rfl) (by decide) (by kernel_rfl) (by kernel_rfl) (
 TOk.cons (by kernel_rfl) (by decide) (by kernel_rfl) (by kernel_rfl) (
 TOk.cons (by kernel_rfl) (by decide) (by kernel_rfl) (by kernel_rfl) (
 TOk.cons (by kernel_rfl) (by decide) (by kernel_rfl) (by kernel_rfl) (
 TOk.cons (by kernel_rfl) (by decide) (by kernel_rfl) (by kernel_rfl) (
 TOk.cons (by kernel_rfl) (by decide) (by kernel_rfl) (by kernel_rfl) (
 TOk.cons (by kernel_rfl) (by decide) (by kernel_rfl) (by kernel_rfl) (
 TOk.cons (by kernel_rfl) (by decide) (by kernel_rfl) (by kernel_rfl) (
 TOk.cons (by kernel_rfl) (by decide) (by kernel_rfl) (by kernel_rfl) (
 TOk.cons (by kernel_rfl) (by decide) (by kernel_rfl) (by kernel_rfl) (
 TOk.cons (by kernel_rfl) (by decide) (by kernel_rfl) (by kernel_rfl) (
 TOk.cons (by kernel_rfl) (by decide) (by kernel_rfl) (by kernel_rfl) (
 TOk.cons (by kernel_rfl) (by decide) (by kernel_rfl) (by kernel_rfl) (
 TOk.cons (by kernel_rfl) (by decide) (by kernel_rfl) (by kernel_rfl) (
 TOk.cons (by kernel_rfl) (by decide) (by kernel_rfl) (by kernel_rfl) (
 TOk.cons (by kernel_rfl) (by decide) (by kernel_rfl) (by kernel_rfl) (
 TOk.cons (by kernel_rfl) (by decide) (by kernel_rfl) (by kernel_rfl) (
 TOk.cons (by kernel_rfl) (by decide) (by kernel_rfl) (by kernel_rfl) (
 TOk.cons (by kernel_rfl) (by decide) (by kernel_rfl) (by kernel_rfl) (
 TOk.cons (by kernel_rfl) (by decide) (by kernel_rfl) (by kernel_rfl) (
 TOk.cons (by kernel_rfl) (by decide) (by kernel_rfl) (by kernel_rfl) (
 TOk.cons (by kernel_rfl) (by decide) (by kernel_rfl) (by kernel_rfl) (
 TOk.cons (by kernel_rfl) (by decide) (by kernel_rfl) (by kernel_rfl) (
 TOk.cons (by kernel_rfl) (by decide) (by kernel_rfl) (by kernel_rfl) (
 TOk.cons (by kernel_rfl) (by decide) (by kernel_rfl) (by kernel_rfl) (
 TOk.cons (by kernel_rfl) (by decide) (by kernel_rfl) (by kernel_rfl) (
 TOk.cons (by kernel_rfl) (by decide) (by kernel_rfl) (by kernel_rfl) (
 TOk.cons (by kernel_rfl) (by decide) (by kernel_rfl) (by kernel_rfl) (
 TOk.cons (by kernel_rfl) (by decide) (by kernel_rfl) (by kernel_rfl) (
 TOk.cons (by kernel_rfl) (by decide) (by kernel_rfl) (by kernel_rfl) (
 TOk.cons (by kernel_rfl) (by decide) (by kernel_rfl) (by kernel_rfl) (
 TOk.cons (by kernel_rfl) (by decide) (by kernel_rfl) (by kernel_rfl) (
 TOk.cons (by kernel_rfl) (by decide) (by kernel_rfl) (by kernel_rfl) (
 TOk.cons (by kernel_rfl) (by decide) (by kernel_rfl) (by kernel_rfl) (
 TOk.cons (by kernel_rfl) (by decide) (by kernel_rfl) (by kernel_rfl) (
 TOk.cons (by kernel_rfl) (by decide) (by kernel_rfl) (by kernel_rfl) (
 TOk.cons (by kernel_rfl) (by decide) (by kernel_rfl) (by kernel_rfl) (
 TOk.cons (by kernel_rfl) (by decide) (by kernel_rfl) (by kernel_rfl) (
 TOk.cons (by kernel_rfl) (by decide) (by kernel_rfl) (by kernel_rfl) (
 TOk.cons (by kernel_rfl) (by decide) (by kernel_rfl) (by kernel_rfl) (
 TOk.cons (by kernel_rfl) (by decide) (by kernel_rfl) (by kernel_rfl) (
 TOk.cons (by kernel_rfl) (by decide) (by kernel_rfl) (by kernel_rfl) (
 TOk.cons (by kernel_rfl) (by decide) (by kernel_rfl) (by kernel_rfl) (
 TOk.cons (by kernel_rfl) (by decide) (by kernel_rfl) (by kernel_rfl) (
 TOk.cons (by kernel_rfl) (by decide) (by kernel_rfl) (by kernel_rfl) (
 TOk.cons (by kernel_rfl) (by decide) (by kernel_rfl) (by kernel_rfl) (
 TOk.cons (by kernel_rfl) (by decide) (by kernel_rfl) (by kernel_rfl) (
 TOk.cons (by kernel_rfl) (by decide) (by kernel_rfl) (by kernel_rfl) (
 TOk.cons (by kernel_rfl) (by decide) (by kernel_rfl) (by kernel_rfl) (
 TOk.cons (by kernel_rfl) (by decide) (by kernel_rfl) (by kernel_rfl) (
 TOk.cons (by kernel_rfl) (by decide) (by kernel_rfl) (by kernel_rfl) (
 TOk.cons (by kernel_rfl) (by decide) (by kernel_rfl) (by kernel_rfl) (
 TOk.cons (by kernel_rfl) (by decide) (by kernel_rfl) (by kernel_rfl) (
 TOk.cons (by kernel_rfl) (by decide) (by kernel_rfl) (by kernel_rfl) (
 TOk.cons (by kernel_rfl) (by decide) (by kernel_rfl) (by kernel_rfl) (
 TOk.cons (by kernel_rfl) (by decide) (by kernel_rfl) (by kernel_rfl) (
 TOk.cons (by kernel_rfl) (by decide) (by kernel_rfl) (by kernel_rfl) (
 TOk.cons (by kernel_rfl) (by decide) (by kernel_rfl) (by kernel_rfl) (
 TOk.cons (by kernel_rfl) (by decide) (by kernel_rfl) (by kernel_rfl) (
 TOk.cons (by kernel_rfl) (by decide) (by kernel_rfl) (by kernel_rfl) (
 TOk.cons (by kernel_rfl) (by decide) (by kernel_rfl) (by kernel_rfl) (
 TOk.cons (by kernel_rfl) (by decide) (by kernel_rfl) (by kernel_rfl) (
 TOk.cons (by kernel_rfl) (by decide) (by kernel_rfl) (by kernel_rfl) (
 TOk.cons (by kernel_rfl) (by decide) (by kernel_rfl) (by kernel_rfl) (
 TOk.cons (by kernel_rfl) (by decide) (by kernel_rfl) (by kernel_rfl) (
 TOk.cons (by kernel_rfl) (by decide) (by kernel_rfl) (by kernel_rfl) (
 TOk.cons (by kernel_rfl) (by decide) (by kernel_rfl) (by kernel_rfl) (
 TOk.cons (by kernel_rfl) (by decide) (by kernel_rfl) (by kernel_rfl) (
 TOk.cons (by kernel_rfl) (by decide) (by kernel_rfl) (by kernel_rfl) (
 TOk.cons (by kernel_rfl) (by decide) (by kernel_rfl) (by kernel_rfl) (
 TOk.cons (by kernel_rfl) (by decide) (by kernel_rfl) (by kernel_rfl) (
 TOk.cons (by kernel_rfl) (by decide) (by kernel_rfl) (by kernel_rfl) (
 TOk.cons (by kernel_rfl) (by decide) (by kernel_rfl) (by kernel_rfl) (
 TOk.cons (by kernel_rfl) (by decide) (by kernel_rfl) (by kernel_rfl) (
 TOk.cons (by kernel_rfl) (by decide) (by kernel_rfl) (by kernel_rfl) (
 TOk.cons (by kernel_rfl) (by decide) (by kernel_rfl) (by kernel_rfl) (
 TOk.cons (by kernel_rfl) (by decide) (by kernel_rfl) (by kernel_rfl) (
 TOk.cons (by kernel_rfl) (by decide) (by kernel_rfl) (by kernel_rfl) (
 TOk.cons (by kernel_rfl) (by decide) (by kernel_rfl) (by kernel_rfl) (
 TOk.cons (by kernel_rfl) (by decide) (by kernel_rfl) (by kernel_rfl) (
 TOk.cons (by kernel_rfl) (by decide) (by kernel_rfl) (by kernel_rfl) (
 TOk.cons (by kernel_rfl) (by decide) (by kernel_rfl) (by kernel_rfl) (
 TOk.cons (by kernel_rfl) (by decide) (by kernel_rfl) (by kernel_rfl) (
 TOk.cons (by kernel_rfl) (by decide) (by kernel_rfl) (by kernel_rfl) (
 TOk.cons (by kernel_rfl) (by decide) (by kernel_rfl) (by kernel_rfl) (
 TOk.cons (by kernel_rfl) (by decide) (by kernel_rfl) (by kernel_rfl) (
 TOk.cons (by kernel_rfl) (by decide) (by kernel_rfl) (by kernel_rfl) (
 TOk.cons (by kernel_rfl) (by decide) (by kernel_rfl) (by kernel_rfl) (
 TOk.cons (by kernel_rfl) (by decide) (by kernel_rfl) (by kernel_rfl) (
 TOk.cons (by kernel_rfl) (by decide) (by kernel_rfl) (by kernel_rfl) (
 TOk.cons (by kernel_rfl) (by decide) (by kernel_rfl) (by kernel_rfl) (
 TOk.cons (by kernel_rfl) (by decide) (by kernel_rfl) (by kernel_rfl) (
 TOk.cons (by kernel_rfl) (by decide) (by kernel_rfl) (by kernel_rfl) (
 TOk.cons (by kernel_rfl) (by decide) (by kernel_rfl) (by kernel_rfl) (
 TOk.cons (by kernel_rfl) (by decide) (by kernel_rfl) (by kernel_rfl) (
 TOk.cons (by kernel_rfl) (by decide) (by kernel_rfl) (by kernel_rfl) (
 TOk.cons (by kernel_rfl) (by decide) (by kernel_rfl) (by kernel_rfl) (
 TOk.cons (by kernel_rfl) (by decide) (by kernel_rfl) (by kernel_rfl) (
 TOk.cons (by kernel_rfl) (by decide) (by kernel_rfl) (by kernel_rfl) (
 TOk.cons (by kernel_rfl) (by decide) (by kernel_rfl) (by kernel_rfl) (
 TOk.cons (by kernel_rfl) (by decide) (by kernel_rfl) (by kernel_rfl) (
 TOk.cons (by kernel_rfl) (by decide) (by kernel_rfl) (by kernel_rfl) (
 TOk.cons (by kernel_rfl) (by decide) (by kernel_rfl) (by kernel_rfl) (
 TOk.cons (by kernel_rfl) (by decide) (by kernel_rfl) (by kernel_rfl) (
 TOk.cons (by kernel_rfl) (by decide) (by kernel_rfl) (by kernel_rfl) (
 TOk.cons (by kernel_rfl) (by decide) (by kernel_rfl) (by kernel_rfl) (
 TOk.nil)))))))))))))))))))))))))))))))))))))))))))))))))))))))))))))))))))))))))))))))))))))))))))))))))))))))))))))))))))))))))
theorem mixed : Try.prog.follows .mixedOrders = true := by kernel_rfl
end Go.Proofs.Ytleemdeodmdnkaa
