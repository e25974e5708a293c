/- The types of this translation, as the evaluator wants them. -/
import Derived.Test.YtpbbnoggkbfkoaaGreatEvR
import Derived.Test.YtpbbnoggkbfkoaaGreatChecked
namespace Go.Proofs.YtpbbnoggkbfkoaaGreat
open Go Go.Ev Go.Proofs
def tt : List (Nat × TI) :=
 [(1, ⟨(TypeDesc.func #[] #[] Bool.false), 1, 8, Value.nilFunc, none⟩),
 (2, ⟨(TypeDesc.int IntKind.i64), 1, 8, (Value.int IntKind.i64 (0 : Int)), some (.int .i64)⟩),
 (3, ⟨(TypeDesc.int IntKind.i64), 1, 8, (Value.int IntKind.i64 (0 : Int)), some (.int .i64)⟩),
 (4, ⟨TypeDesc.bool, 1, 1, (Value.bool Bool.false), some .bool⟩),
 (5, ⟨(TypeDesc.int IntKind.u8), 1, 1, (Value.int IntKind.u8 (0 : Int)), some (.int .u8)⟩),
 (6, ⟨(TypeDesc.int IntKind.u8), 1, 1, (Value.int IntKind.u8 (0 : Int)), some (.int .u8)⟩),
 (7, ⟨(TypeDesc.struct #[(Field.mk "x" 2 0 Bool.false "" "runtime" 0), (Field.mk "y" 3 1 Bool.false "" "runtime" 8), (Field.mk "signed" 4 2 Bool.false "" "runtime" 16), (Field.mk "code" 6 3 Bool.false "" "runtime" 17)]), 4, 24, (Value.agg #[(Value.int IntKind.i64 (0 : Int)), (Value.int IntKind.i64 (0 : Int)), (Value.bool Bool.false), (Value.int IntKind.u8 (0 : Int))]), some (.prod (.int .i64) (.prod (.int .i64) (.prod .bool (.int .u8))))⟩),
 (8, ⟨(TypeDesc.struct #[(Field.mk "x" 2 0 Bool.false "" "runtime" 0), (Field.mk "y" 3 1 Bool.false "" "runtime" 8), (Field.mk "signed" 4 2 Bool.false "" "runtime" 16), (Field.mk "code" 6 3 Bool.false "" "runtime" 17)]), 4, 24, (Value.agg #[(Value.int IntKind.i64 (0 : Int)), (Value.int IntKind.i64 (0 : Int)), (Value.bool Bool.false), (Value.int IntKind.u8 (0 : Int))]), some (.prod (.int .i64) (.prod (.int .i64) (.prod .bool (.int .u8))))⟩),
 (9, ⟨TypeDesc.string, 1, 16, (Value.string (ByteArray.mk #[])), some .str⟩),
 (10, ⟨TypeDesc.string, 1, 16, (Value.string (ByteArray.mk #[])), some .str⟩),
 (11, ⟨TypeDesc.string, 1, 16, (Value.string (ByteArray.mk #[])), some .str⟩),
 (12, ⟨(TypeDesc.int IntKind.u64), 1, 8, (Value.int IntKind.u64 (0 : Int)), some (.int .u64)⟩),
 (15, ⟨(TypeDesc.pointer 140), 1, 8, (Value.pointer Option.none), none⟩),
 (16, ⟨(TypeDesc.pointer 143), 1, 8, (Value.pointer Option.none), none⟩),
 (17, ⟨(TypeDesc.pointer 153), 1, 8, (Value.pointer Option.none), none⟩),
 (21, ⟨(TypeDesc.int IntKind.i32), 1, 4, (Value.int IntKind.i32 (0 : Int)), some (.int .i32)⟩),
 (22, ⟨(TypeDesc.slice 72), 1, 24, (Value.slice Option.none 0 0), some (.sl (.prod (.int .i64) (.prod (.int .i64) (.int .i64))))⟩),
 (23, ⟨(TypeDesc.slice 34), 1, 24, (Value.slice Option.none 0 0), some (.sl (.prod (.int .i64) (.int .i64)))⟩),
 (24, ⟨(TypeDesc.slice 75), 1, 24, (Value.slice Option.none 0 0), some (.sl (.prod (.prod (.int .i64) (.prod (.int .i64) (.int .i64))) (.prod (.prod (.int .i64) (.prod (.int .i64) (.int .i64))) (.prod (.int .i64) (.prod (.int .i64) (.int .i64))))))⟩),
 (25, ⟨(TypeDesc.struct #[(Field.mk "V" 22 0 Bool.false "" "" 0), (Field.mk "T" 23 1 Bool.false "" "" 24), (Field.mk "N" 22 2 Bool.false "" "" 48), (Field.mk "Tris" 24 3 Bool.false "" "" 72)]), 4, 96, (Value.agg #[(Value.slice Option.none 0 0), (Value.slice Option.none 0 0), (Value.slice Option.none 0 0), (Value.slice Option.none 0 0)]), some (.prod (.sl (.prod (.int .i64) (.prod (.int .i64) (.int .i64)))) (.prod (.sl (.prod (.int .i64) (.int .i64))) (.prod (.sl (.prod (.int .i64) (.prod (.int .i64) (.int .i64)))) (.sl (.prod (.prod (.int .i64) (.prod (.int .i64) (.int .i64))) (.prod (.prod (.int .i64) (.prod (.int .i64) (.int .i64))) (.prod (.int .i64) (.prod (.int .i64) (.int .i64)))))))))⟩),
 (26, ⟨(TypeDesc.struct #[(Field.mk "V" 22 0 Bool.false "" "" 0), (Field.mk "T" 23 1 Bool.false "" "" 24), (Field.mk "N" 22 2 Bool.false "" "" 48), (Field.mk "Tris" 24 3 Bool.false "" "" 72)]), 4, 96, (Value.agg #[(Value.slice Option.none 0 0), (Value.slice Option.none 0 0), (Value.slice Option.none 0 0), (Value.slice Option.none 0 0)]), some (.prod (.sl (.prod (.int .i64) (.prod (.int .i64) (.int .i64)))) (.prod (.sl (.prod (.int .i64) (.int .i64))) (.prod (.sl (.prod (.int .i64) (.prod (.int .i64) (.int .i64)))) (.sl (.prod (.prod (.int .i64) (.prod (.int .i64) (.int .i64))) (.prod (.prod (.int .i64) (.prod (.int .i64) (.int .i64))) (.prod (.int .i64) (.prod (.int .i64) (.int .i64)))))))))⟩),
 (27, ⟨(TypeDesc.slice 3), 1, 24, (Value.slice Option.none 0 0), some (.sl (.int .i64))⟩),
 (28, ⟨(TypeDesc.struct #[(Field.mk "Axis" 3 0 Bool.false "" "" 0), (Field.mk "Side" 3 1 Bool.false "" "" 8), (Field.mk "Tris" 27 2 Bool.false "" "" 16)]), 3, 40, (Value.agg #[(Value.int IntKind.i64 (0 : Int)), (Value.int IntKind.i64 (0 : Int)), (Value.slice Option.none 0 0)]), some (.prod (.int .i64) (.prod (.int .i64) (.sl (.int .i64))))⟩),
 (29, ⟨(TypeDesc.struct #[(Field.mk "Axis" 3 0 Bool.false "" "" 0), (Field.mk "Side" 3 1 Bool.false "" "" 8), (Field.mk "Tris" 27 2 Bool.false "" "" 16)]), 3, 40, (Value.agg #[(Value.int IntKind.i64 (0 : Int)), (Value.int IntKind.i64 (0 : Int)), (Value.slice Option.none 0 0)]), some (.prod (.int .i64) (.prod (.int .i64) (.sl (.int .i64))))⟩),
 (30, ⟨(TypeDesc.slice 51), 1, 24, (Value.slice Option.none 0 0), some (.sl (.prod (.prod (.int .i64) (.int .i64)) (.prod (.prod (.int .i64) (.int .i64)) (.prod (.int .i64) (.int .i64)))))⟩),
 (31, ⟨(TypeDesc.struct #[(Field.mk "Tris" 27 0 Bool.false "" "" 0), (Field.mk "UV" 30 1 Bool.false "" "" 24), (Field.mk "W" 3 2 Bool.false "" "" 48), (Field.mk "H" 3 3 Bool.false "" "" 56)]), 4, 64, (Value.agg #[(Value.slice Option.none 0 0), (Value.slice Option.none 0 0), (Value.int IntKind.i64 (0 : Int)), (Value.int IntKind.i64 (0 : Int))]), some (.prod (.sl (.int .i64)) (.prod (.sl (.prod (.prod (.int .i64) (.int .i64)) (.prod (.prod (.int .i64) (.int .i64)) (.prod (.int .i64) (.int .i64))))) (.prod (.int .i64) (.int .i64))))⟩),
 (32, ⟨(TypeDesc.struct #[(Field.mk "Tris" 27 0 Bool.false "" "" 0), (Field.mk "UV" 30 1 Bool.false "" "" 24), (Field.mk "W" 3 2 Bool.false "" "" 48), (Field.mk "H" 3 3 Bool.false "" "" 56)]), 4, 64, (Value.agg #[(Value.slice Option.none 0 0), (Value.slice Option.none 0 0), (Value.int IntKind.i64 (0 : Int)), (Value.int IntKind.i64 (0 : Int))]), some (.prod (.sl (.int .i64)) (.prod (.sl (.prod (.prod (.int .i64) (.int .i64)) (.prod (.prod (.int .i64) (.int .i64)) (.prod (.int .i64) (.int .i64))))) (.prod (.int .i64) (.int .i64))))⟩),
 (33, ⟨(TypeDesc.struct #[(Field.mk "X" 3 0 Bool.false "" "" 0), (Field.mk "Y" 3 1 Bool.false "" "" 8)]), 2, 16, (Value.agg #[(Value.int IntKind.i64 (0 : Int)), (Value.int IntKind.i64 (0 : Int))]), some (.prod (.int .i64) (.int .i64))⟩),
 (34, ⟨(TypeDesc.struct #[(Field.mk "X" 3 0 Bool.false "" "" 0), (Field.mk "Y" 3 1 Bool.false "" "" 8)]), 2, 16, (Value.agg #[(Value.int IntKind.i64 (0 : Int)), (Value.int IntKind.i64 (0 : Int))]), some (.prod (.int .i64) (.int .i64))⟩),
 (35, ⟨(TypeDesc.func #[26, 36] #[4] Bool.false), 1, 8, Value.nilFunc, none⟩),
 (36, ⟨(TypeDesc.slice 29), 1, 24, (Value.slice Option.none 0 0), some (.sl (.prod (.int .i64) (.prod (.int .i64) (.sl (.int .i64)))))⟩),
 (37, ⟨(TypeDesc.func #[32] #[4] Bool.false), 1, 8, Value.nilFunc, none⟩),
 (38, ⟨(TypeDesc.func #[32] #[32] Bool.false), 1, 8, Value.nilFunc, none⟩),
 (39, ⟨(TypeDesc.int IntKind.i64), 1, 8, (Value.int IntKind.i64 (0 : Int)), some (.int .i64)⟩),
 (41, ⟨(TypeDesc.func #[26, 29, 3] #[32, 39] Bool.false), 1, 8, Value.nilFunc, none⟩),
 (43, ⟨(TypeDesc.func #[32, 34] #[30, 39] Bool.false), 1, 8, Value.nilFunc, none⟩),
 (45, ⟨(TypeDesc.func #[30] #[34, 34, 39] Bool.true), 1, 8, Value.nilFunc, none⟩),
 (46, ⟨(TypeDesc.func #[30] #[34, 34, 39] Bool.false), 1, 8, Value.nilFunc, none⟩),
 (48, ⟨(TypeDesc.func #[3] #[3, 39] Bool.false), 1, 8, Value.nilFunc, none⟩),
 (49, ⟨(TypeDesc.func #[32, 32] #[4] Bool.false), 1, 8, Value.nilFunc, none⟩),
 (50, ⟨(TypeDesc.func #[30, 30] #[4] Bool.false), 1, 8, Value.nilFunc, none⟩),
 (51, ⟨(TypeDesc.array 3 34), 6, 48, (Value.agg #[(Value.int IntKind.i64 (0 : Int)), (Value.int IntKind.i64 (0 : Int)), (Value.int IntKind.i64 (0 : Int)), (Value.int IntKind.i64 (0 : Int)), (Value.int IntKind.i64 (0 : Int)), (Value.int IntKind.i64 (0 : Int))]), some (.prod (.prod (.int .i64) (.int .i64)) (.prod (.prod (.int .i64) (.int .i64)) (.prod (.int .i64) (.int .i64))))⟩),
 (52, ⟨(TypeDesc.func #[] #[4] Bool.false), 1, 8, Value.nilFunc, none⟩),
 (53, ⟨(TypeDesc.func #[26, 29, 3, 32, 34, 3] #[4] Bool.false), 1, 8, Value.nilFunc, none⟩),
 (54, ⟨(TypeDesc.func #[26] #[4] Bool.false), 1, 8, Value.nilFunc, none⟩),
 (55, ⟨(TypeDesc.func #[27] #[27] Bool.false), 1, 8, Value.nilFunc, none⟩),
 (57, ⟨(TypeDesc.func #[26, 3] #[3, 3, 4] Bool.false), 1, 8, Value.nilFunc, none⟩),
 (59, ⟨(TypeDesc.func #[26, 3, 3] #[51, 39] Bool.false), 1, 8, Value.nilFunc, none⟩),
 (60, ⟨(TypeDesc.func #[34] #[34] Bool.false), 1, 8, Value.nilFunc, none⟩),
 (61, ⟨(TypeDesc.func #[30, 60] #[30] Bool.false), 1, 8, Value.nilFunc, none⟩),
 (62, ⟨(TypeDesc.func #[30] #[4] Bool.false), 1, 8, Value.nilFunc, none⟩),
 (64, ⟨(TypeDesc.func #[34] #[3, 3] Bool.false), 1, 8, Value.nilFunc, none⟩),
 (65, ⟨(TypeDesc.func #[69] #[] Bool.false), 1, 8, Value.nilFunc, none⟩),
 (66, ⟨(TypeDesc.func #[69] #[] Bool.false), 1, 8, Value.nilFunc, none⟩),
 (67, ⟨(TypeDesc.func #[30] #[66] Bool.false), 1, 8, Value.nilFunc, none⟩),
 (68, ⟨(TypeDesc.func #[23] #[4] Bool.true), 1, 8, Value.nilFunc, none⟩),
 (69, ⟨(TypeDesc.func #[34] #[4] Bool.false), 1, 8, Value.nilFunc, none⟩),
 (70, ⟨(TypeDesc.func #[27, 27] #[4] Bool.false), 1, 8, Value.nilFunc, none⟩),
 (71, ⟨(TypeDesc.struct #[(Field.mk "X" 3 0 Bool.false "" "" 0), (Field.mk "Y" 3 1 Bool.false "" "" 8), (Field.mk "Z" 3 2 Bool.false "" "" 16)]), 3, 24, (Value.agg #[(Value.int IntKind.i64 (0 : Int)), (Value.int IntKind.i64 (0 : Int)), (Value.int IntKind.i64 (0 : Int))]), some (.prod (.int .i64) (.prod (.int .i64) (.int .i64)))⟩),
 (72, ⟨(TypeDesc.struct #[(Field.mk "X" 3 0 Bool.false "" "" 0), (Field.mk "Y" 3 1 Bool.false "" "" 8), (Field.mk "Z" 3 2 Bool.false "" "" 16)]), 3, 24, (Value.agg #[(Value.int IntKind.i64 (0 : Int)), (Value.int IntKind.i64 (0 : Int)), (Value.int IntKind.i64 (0 : Int))]), some (.prod (.int .i64) (.prod (.int .i64) (.int .i64)))⟩),
 (73, ⟨(TypeDesc.struct #[(Field.mk "V" 3 0 Bool.false "" "" 0), (Field.mk "T" 3 1 Bool.false "" "" 8), (Field.mk "N" 3 2 Bool.false "" "" 16)]), 3, 24, (Value.agg #[(Value.int IntKind.i64 (0 : Int)), (Value.int IntKind.i64 (0 : Int)), (Value.int IntKind.i64 (0 : Int))]), some (.prod (.int .i64) (.prod (.int .i64) (.int .i64)))⟩),
 (74, ⟨(TypeDesc.struct #[(Field.mk "V" 3 0 Bool.false "" "" 0), (Field.mk "T" 3 1 Bool.false "" "" 8), (Field.mk "N" 3 2 Bool.false "" "" 16)]), 3, 24, (Value.agg #[(Value.int IntKind.i64 (0 : Int)), (Value.int IntKind.i64 (0 : Int)), (Value.int IntKind.i64 (0 : Int))]), some (.prod (.int .i64) (.prod (.int .i64) (.int .i64)))⟩),
 (75, ⟨(TypeDesc.array 3 74), 9, 72, (Value.agg #[(Value.int IntKind.i64 (0 : Int)), (Value.int IntKind.i64 (0 : Int)), (Value.int IntKind.i64 (0 : Int)), (Value.int IntKind.i64 (0 : Int)), (Value.int IntKind.i64 (0 : Int)), (Value.int IntKind.i64 (0 : Int)), (Value.int IntKind.i64 (0 : Int)), (Value.int IntKind.i64 (0 : Int)), (Value.int IntKind.i64 (0 : Int))]), some (.prod (.prod (.int .i64) (.prod (.int .i64) (.int .i64))) (.prod (.prod (.int .i64) (.prod (.int .i64) (.int .i64))) (.prod (.int .i64) (.prod (.int .i64) (.int .i64)))))⟩),
 (76, ⟨(TypeDesc.func #[51] #[4] Bool.false), 1, 8, Value.nilFunc, none⟩),
 (77, ⟨(TypeDesc.func #[30, 76] #[4] Bool.false), 1, 8, Value.nilFunc, none⟩),
 (78, ⟨(TypeDesc.pointer 101), 1, 8, (Value.pointer Option.none), none⟩),
 (80, ⟨(TypeDesc.func #[26] #[78, 4] Bool.false), 1, 8, Value.nilFunc, none⟩),
 (81, ⟨(TypeDesc.struct #[(Field.mk "axis" 3 0 Bool.false "" "limewash/chart" 0), (Field.mk "side" 3 1 Bool.false "" "limewash/chart" 8)]), 2, 16, (Value.agg #[(Value.int IntKind.i64 (0 : Int)), (Value.int IntKind.i64 (0 : Int))]), some (.prod (.int .i64) (.int .i64))⟩),
 (82, ⟨(TypeDesc.struct #[(Field.mk "axis" 3 0 Bool.false "" "limewash/chart" 0), (Field.mk "side" 3 1 Bool.false "" "limewash/chart" 8)]), 2, 16, (Value.agg #[(Value.int IntKind.i64 (0 : Int)), (Value.int IntKind.i64 (0 : Int))]), some (.prod (.int .i64) (.int .i64))⟩),
 (84, ⟨(TypeDesc.func #[3] #[82, 4] Bool.false), 1, 8, Value.nilFunc, none⟩),
 (85, ⟨(TypeDesc.func #[3] #[4] Bool.false), 1, 8, Value.nilFunc, none⟩),
 (86, ⟨(TypeDesc.func #[3, 3] #[51] Bool.false), 1, 8, Value.nilFunc, none⟩),
 (87, ⟨(TypeDesc.func #[30] #[30] Bool.false), 1, 8, Value.nilFunc, none⟩),
 (89, ⟨(TypeDesc.func #[51, 51] #[4, 39] Bool.false), 1, 8, Value.nilFunc, none⟩),
 (90, ⟨(TypeDesc.func #[26, 3] #[4] Bool.false), 1, 8, Value.nilFunc, none⟩),
 (91, ⟨(TypeDesc.array 3 72), 9, 72, (Value.agg #[(Value.int IntKind.i64 (0 : Int)), (Value.int IntKind.i64 (0 : Int)), (Value.int IntKind.i64 (0 : Int)), (Value.int IntKind.i64 (0 : Int)), (Value.int IntKind.i64 (0 : Int)), (Value.int IntKind.i64 (0 : Int)), (Value.int IntKind.i64 (0 : Int)), (Value.int IntKind.i64 (0 : Int)), (Value.int IntKind.i64 (0 : Int))]), some (.prod (.prod (.int .i64) (.prod (.int .i64) (.int .i64))) (.prod (.prod (.int .i64) (.prod (.int .i64) (.int .i64))) (.prod (.int .i64) (.prod (.int .i64) (.int .i64)))))⟩),
 (92, ⟨(TypeDesc.func #[26, 3] #[91] Bool.false), 1, 8, Value.nilFunc, none⟩),
 (94, ⟨(TypeDesc.func #[72, 72, 72] #[3, 3, 39] Bool.false), 1, 8, Value.nilFunc, none⟩),
 (96, ⟨(TypeDesc.func #[72, 3] #[34, 39] Bool.false), 1, 8, Value.nilFunc, none⟩),
 (97, ⟨(TypeDesc.func #[3, 27] #[4] Bool.true), 1, 8, Value.nilFunc, none⟩),
 (98, ⟨(TypeDesc.func #[34, 34, 34] #[3, 39] Bool.false), 1, 8, Value.nilFunc, none⟩),
 (99, ⟨(TypeDesc.func #[30, 76] #[3] Bool.false), 1, 8, Value.nilFunc, none⟩),
 (100, ⟨(TypeDesc.struct #[(Field.mk "Mesh" 26 0 Bool.true "" "" 0)]), 4, 96, (Value.agg #[(Value.slice Option.none 0 0), (Value.slice Option.none 0 0), (Value.slice Option.none 0 0), (Value.slice Option.none 0 0)]), some (.prod (.sl (.prod (.int .i64) (.prod (.int .i64) (.int .i64)))) (.prod (.sl (.prod (.int .i64) (.int .i64))) (.prod (.sl (.prod (.int .i64) (.prod (.int .i64) (.int .i64)))) (.sl (.prod (.prod (.int .i64) (.prod (.int .i64) (.int .i64))) (.prod (.prod (.int .i64) (.prod (.int .i64) (.int .i64))) (.prod (.int .i64) (.prod (.int .i64) (.int .i64)))))))))⟩),
 (101, ⟨(TypeDesc.struct #[(Field.mk "Mesh" 26 0 Bool.true "" "" 0)]), 4, 96, (Value.agg #[(Value.slice Option.none 0 0), (Value.slice Option.none 0 0), (Value.slice Option.none 0 0), (Value.slice Option.none 0 0)]), some (.prod (.sl (.prod (.int .i64) (.prod (.int .i64) (.int .i64)))) (.prod (.sl (.prod (.int .i64) (.int .i64))) (.prod (.sl (.prod (.int .i64) (.prod (.int .i64) (.int .i64)))) (.sl (.prod (.prod (.int .i64) (.prod (.int .i64) (.int .i64))) (.prod (.prod (.int .i64) (.prod (.int .i64) (.int .i64))) (.prod (.int .i64) (.prod (.int .i64) (.int .i64)))))))))⟩),
 (102, ⟨(TypeDesc.func #[3] #[91] Bool.false), 1, 8, Value.nilFunc, none⟩),
 (103, ⟨(TypeDesc.func #[51, 51, 3] #[4, 39] Bool.false), 1, 8, Value.nilFunc, none⟩),
 (104, ⟨(TypeDesc.func #[22] #[4] Bool.false), 1, 8, Value.nilFunc, none⟩),
 (105, ⟨(TypeDesc.func #[23] #[4] Bool.false), 1, 8, Value.nilFunc, none⟩),
 (106, ⟨(TypeDesc.func #[3, 3, 3] #[4] Bool.false), 1, 8, Value.nilFunc, none⟩),
 (108, ⟨(TypeDesc.func #[72, 72, 72] #[72, 39] Bool.false), 1, 8, Value.nilFunc, none⟩),
 (109, ⟨(TypeDesc.func #[72] #[3] Bool.false), 1, 8, Value.nilFunc, none⟩),
 (110, ⟨(TypeDesc.func #[3] #[3] Bool.false), 1, 8, Value.nilFunc, none⟩),
 (111, ⟨(TypeDesc.func #[51, 23, 4] #[4] Bool.false), 1, 8, Value.nilFunc, none⟩),
 (112, ⟨(TypeDesc.array 3 34), 6, 48, (Value.agg #[(Value.int IntKind.i64 (0 : Int)), (Value.int IntKind.i64 (0 : Int)), (Value.int IntKind.i64 (0 : Int)), (Value.int IntKind.i64 (0 : Int)), (Value.int IntKind.i64 (0 : Int)), (Value.int IntKind.i64 (0 : Int))]), some (.prod (.prod (.int .i64) (.int .i64)) (.prod (.prod (.int .i64) (.int .i64)) (.prod (.int .i64) (.int .i64))))⟩),
 (113, ⟨(TypeDesc.func #[] #[3, 39] Bool.false), 1, 8, Value.nilFunc, none⟩),
 (114, ⟨(TypeDesc.func #[34, 34] #[3, 39] Bool.false), 1, 8, Value.nilFunc, none⟩),
 (115, ⟨(TypeDesc.func #[34, 34] #[34] Bool.false), 1, 8, Value.nilFunc, none⟩),
 (116, ⟨(TypeDesc.func #[22, 117] #[4] Bool.false), 1, 8, Value.nilFunc, none⟩),
 (117, ⟨(TypeDesc.func #[72] #[4] Bool.false), 1, 8, Value.nilFunc, none⟩),
 (118, ⟨(TypeDesc.func #[3, 3] #[3] Bool.false), 1, 8, Value.nilFunc, none⟩),
 (119, ⟨(TypeDesc.array 3 3), 3, 24, (Value.agg #[(Value.int IntKind.i64 (0 : Int)), (Value.int IntKind.i64 (0 : Int)), (Value.int IntKind.i64 (0 : Int))]), some (.prod (.int .i64) (.prod (.int .i64) (.int .i64)))⟩),
 (120, ⟨(TypeDesc.func #[72] #[119] Bool.false), 1, 8, Value.nilFunc, none⟩),
 (121, ⟨(TypeDesc.func #[51, 3, 23] #[4] Bool.true), 1, 8, Value.nilFunc, none⟩),
 (122, ⟨(TypeDesc.func #[72, 72] #[72, 39] Bool.false), 1, 8, Value.nilFunc, none⟩),
 (123, ⟨(TypeDesc.func #[72, 72] #[72] Bool.false), 1, 8, Value.nilFunc, none⟩),
 (124, ⟨(TypeDesc.func #[51, 3, 23] #[3] Bool.false), 1, 8, Value.nilFunc, none⟩),
 (125, ⟨(TypeDesc.func #[22] #[4] Bool.true), 1, 8, Value.nilFunc, none⟩),
 (126, ⟨(TypeDesc.func #[3, 3, 4] #[4] Bool.false), 1, 8, Value.nilFunc, none⟩),
 (127, ⟨(TypeDesc.func #[22, 117] #[3] Bool.false), 1, 8, Value.nilFunc, none⟩),
 (128, ⟨(TypeDesc.array 3 72), 9, 72, (Value.agg #[(Value.int IntKind.i64 (0 : Int)), (Value.int IntKind.i64 (0 : Int)), (Value.int IntKind.i64 (0 : Int)), (Value.int IntKind.i64 (0 : Int)), (Value.int IntKind.i64 (0 : Int)), (Value.int IntKind.i64 (0 : Int)), (Value.int IntKind.i64 (0 : Int)), (Value.int IntKind.i64 (0 : Int)), (Value.int IntKind.i64 (0 : Int))]), some (.prod (.prod (.int .i64) (.prod (.int .i64) (.int .i64))) (.prod (.prod (.int .i64) (.prod (.int .i64) (.int .i64))) (.prod (.int .i64) (.prod (.int .i64) (.int .i64)))))⟩),
 (129, ⟨(TypeDesc.func #[] #[72, 39] Bool.false), 1, 8, Value.nilFunc, none⟩),
 (130, ⟨(TypeDesc.func #[136] #[] Bool.false), 1, 8, Value.nilFunc, none⟩),
 (131, ⟨(TypeDesc.func #[136] #[] Bool.false), 1, 8, Value.nilFunc, none⟩),
 (132, ⟨(TypeDesc.func #[51] #[131] Bool.false), 1, 8, Value.nilFunc, none⟩),
 (133, ⟨(TypeDesc.func #[34] #[3] Bool.false), 1, 8, Value.nilFunc, none⟩),
 (134, ⟨(TypeDesc.func #[51, 3, 34] #[3] Bool.false), 1, 8, Value.nilFunc, none⟩),
 (135, ⟨(TypeDesc.func #[27] #[4] Bool.true), 1, 8, Value.nilFunc, none⟩),
 (136, ⟨(TypeDesc.func #[133] #[4] Bool.false), 1, 8, Value.nilFunc, none⟩),
 (137, ⟨(TypeDesc.func #[119] #[72] Bool.false), 1, 8, Value.nilFunc, none⟩),
 (138, ⟨(TypeDesc.func #[] #[9] Bool.false), 1, 8, Value.nilFunc, none⟩),
 (144, ⟨(TypeDesc.func #[] #[3] Bool.false), 1, 8, Value.nilFunc, none⟩),
 (145, ⟨(TypeDesc.int IntKind.u32), 1, 4, (Value.int IntKind.u32 (0 : Int)), some (.int .u32)⟩),
 (146, ⟨(TypeDesc.int IntKind.u8), 1, 1, (Value.int IntKind.u8 (0 : Int)), some (.int .u8)⟩),
 (147, ⟨(TypeDesc.int IntKind.u8), 1, 1, (Value.int IntKind.u8 (0 : Int)), some (.int .u8)⟩),
 (148, ⟨(TypeDesc.func #[154, 154] #[4] Bool.false), 1, 8, Value.nilFunc, none⟩),
 (149, ⟨(TypeDesc.pointer 5), 1, 8, (Value.pointer Option.none), none⟩),
 (150, ⟨(TypeDesc.int IntKind.i32), 1, 4, (Value.int IntKind.i32 (0 : Int)), some (.int .i32)⟩),
 (151, ⟨(TypeDesc.int IntKind.i32), 1, 4, (Value.int IntKind.i32 (0 : Int)), some (.int .i32)⟩),
 (154, ⟨TypeDesc.unsafePointer, 1, 8, (Value.pointer Option.none), none⟩)]
set_option maxRecDepth 100000 in
theorem tt_ok : TOk Tryz.prog tt :=
  TOk.cons (by kernel_rfl) (by decide) (by kernel_rfl) (by kernel_rfl) (
  TOk.cons (by kernel_rfl) (by decide) (by kernel_rfl) (by kernel_rfl) (
  TOk.cons (by kernel_rfl) (by decide) (by kernel_rfl) (by kernel_rfl) (
  TOk.cons (by kernel_rfl) (by decide) (by kernel_rfl) (by kernel_rfl) (
  TOk.cons (by kernel_rfl) (by decide) (by kernel_rfl) (by kernel_rfl) (
  TOk.cons (by kernel_rfl) (by decide) (by kernel_rfl) (by kernel_rfl) (
  TOk.cons (by kernel_rfl) (by decide) (by kernel_rfl) (by kernel_rfl) (
  TOk.cons (by kernel_rfl) (by decide) (by kernel_rfl) (by kernel_rfl) (
  TOk.cons (by kernel_rfl) (by decide) (by kernel_rfl) (by kernel_rfl) (
  TOk.cons (by kernel_rfl) (by decide) (by kernel_rfl) (by kernel_rfl) (
  TOk.cons (by kernel_rfl) (by decide) (by kernel_rfl) (by kernel_rfl) (
  TOk.cons (by kernel_rfl) (by decide) (by kernel_rfl) (by kernel_rfl) (
  TOk.cons (by kernel_rfl) (by decide) (by kernel_rfl) (by kernel_rfl) (
  TOk.cons (by kernel_rfl) (by decide) (by kernel_rfl) (by kernel_rfl) (
  TOk.cons (by kernel_rfl) (by decide) (by kernel_rfl) (by kernel_rfl) (
  TOk.cons (by kernel_rfl) (by decide) (by kernel_rfl) (by kernel_rfl) (
  TOk.cons (by kernel_rfl) (by decide) (by kernel_rfl) (by kernel_rfl) (
  TOk.cons (by kernel_rfl) (by decide) (by kernel_rfl) (by kernel_rfl) (
  TOk.cons (by kernel_rfl) (by decide) (by kernel_rfl) (by kernel_rfl) (
  TOk.cons (by kernel_rfl) (by decide) (by kernel_rfl) (by kernel_rfl) (
  TOk.cons (by kernel_rfl) (by decide) (by kernel_rfl) (by kernel_rfl) (
  TOk.cons (by kernel_rfl) (by decide) (by kernel_rfl) (by kernel_rfl) (
  TOk.cons (by kernel_rfl) (by decide) (by kernel_rfl) (by kernel_rfl) (
  TOk.cons (by kernel_rfl) (by decide) (by kernel_rfl) (by kernel_rfl) (
  TOk.cons (by kernel_rfl) (by decide) (by kernel_rfl) (by kernel_rfl) (
  TOk.cons (by kernel_rfl) (by decide) (by kernel_rfl) (by kernel_rfl) (
  TOk.cons (by kernel_rfl) (by decide) (by kernel_rfl) (by kernel_rfl) (
  TOk.cons (by kernel_rfl) (by decide) (by kernel_rfl) (by kernel_rfl) (
  TOk.cons (by kernel_rfl) (by decide) (by kernel_rfl) (by kernel_rfl) (
  TOk.cons (by kernel_rfl) (by decide) (by kernel_rfl) (by kernel_rfl) (
  TOk.cons (by kernel_rfl) (by decide) (by kernel_rfl) (by kernel_rfl) (
  TOk.cons (by kernel_rfl) (by decide) (by kernel_rfl) (by kernel_rfl) (
  TOk.cons (by kernel_rfl) (by decide) (by kernel_rfl) (by kernel_rfl) (
  TOk.cons (by kernel_rfl) (by decide) (by kernel_rfl) (by kernel_rfl) (
  TOk.cons (by kernel_rfl) (by decide) (by kernel_rfl) (by kernel_rfl) (
  TOk.cons (by kernel_rfl) (by decide) (by kernel_rfl) (by kernel_rfl) (
  TOk.cons (by kernel_rfl) (by decide) (by kernel_rfl) (by kernel_rfl) (
  TOk.cons (by kernel_rfl) (by decide) (by kernel_rfl) (by kernel_rfl) (
  TOk.cons (by kernel_rfl) (by decide) (by kernel_rfl) (by kernel_rfl) (
  TOk.cons (by kernel_rfl) (by decide) (by kernel_rfl) (by kernel_rfl) (
  TOk.cons (by kernel_rfl) (by decide) (by kernel_rfl) (by kernel_rfl) (
  TOk.cons (by kernel_rfl) (by decide) (by kernel_rfl) (by kernel_rfl) (
  TOk.cons (by kernel_rfl) (by decide) (by kernel_rfl) (by kernel_rfl) (
  TOk.cons (by kernel_rfl) (by decide) (by kernel_rfl) (by kernel_rfl) (
  TOk.cons (by kernel_rfl) (by decide) (by kernel_rfl) (by kernel_rfl) (
  TOk.cons (by kernel_rfl) (by decide) (by kernel_rfl) (by kernel_rfl) (
  TOk.cons (by kernel_rfl) (by decide) (by kernel_rfl) (by kernel_rfl) (
  TOk.cons (by kernel_rfl) (by decide) (by kernel_rfl) (by kernel_rfl) (
  TOk.cons (by kernel_rfl) (by decide) (by kernel_rfl) (by kernel_rfl) (
  TOk.cons (by kernel_rfl) (by decide) (by kernel_rfl) (by kernel_rfl) (
  TOk.cons (by kernel_rfl) (by decide) (by kernel_rfl) (by kernel_rfl) (
  TOk.cons (by kernel_rfl) (by decide) (by kernel_rfl) (by kernel_rfl) (
  TOk.cons (by kernel_rfl) (by decide) (by kernel_rfl) (by kernel_rfl) (
  TOk.cons (by kernel_rfl) (by decide) (by kernel_rfl) (by kernel_rfl) (
  TOk.cons (by kernel_rfl) (by decide) (by kernel_rfl) (by kernel_rfl) (
  TOk.cons (by kernel_rfl) (by decide) (by kernel_rfl) (by kernel_rfl) (
  TOk.cons (by kernel_rfl) (by decide) (by kernel_rfl) (by kernel_rfl) (
  TOk.cons (by kernel_rfl) (by decide) (by kernel_rfl) (by kernel_rfl) (
  TOk.cons (by kernel_rfl) (by decide) (by kernel_rfl) (by kernel_rfl) (
  TOk.cons (by kernel_rfl) (by decide) (by kernel_rfl) (by kernel_rfl) (
  TOk.cons (by kernel_rfl) (by decide) (by kernel_rfl) (by kernel_rfl) (
  TOk.cons (by kernel_rfl) (by decide) (by kernel_rfl) (by kernel_rfl) (
  TOk.cons (by kernel_rfl) (by decide) (by kernel_rfl) (by kernel_rfl) (
  TOk.cons (by kernel_rfl) (by decide) (by kernel_rfl) (by kernel_rfl) (
  TOk.cons (by kernel_rfl) (by decide) (by kernel_rfl) (by kernel_rfl) (
  TOk.cons (by kernel_rfl) (by decide) (by kernel_rfl) (by kernel_rfl) (
  TOk.cons (by kernel_rfl) (by decide) (by kernel_rfl) (by kernel_rfl) (
  TOk.cons (by kernel_rfl) (by decide) (by kernel_rfl) (by kernel_rfl) (
  TOk.cons (by kernel_rfl) (by decide) (by kernel_rfl) (by kernel_rfl) (
  TOk.cons (by kernel_rfl) (by decide) (by kernel_rfl) (by kernel_rfl) (
  TOk.cons (by kernel_rfl) (by decide) (by kernel_rfl) (by kernel_rfl) (
  TOk.cons (by kernel_rfl) (by decide) (by kernel_rfl) (by kernel_rfl) (
  TOk.cons (by kernel_rfl) (by decide) (by kernel_rfl) (by kernel_rfl) (
  TOk.cons (by kernel_rfl) (by decide) (by kernel_rfl) (by kernel_rfl) (
  TOk.cons (by kernel_rfl) (by decide) (by kernel_rfl) (by kernel_rfl) (
  TOk.cons (by kernel_rfl) (by decide) (by kernel_rfl) (by kernel_rfl) (
  TOk.cons (by kernel_rfl) (by decide) (by kernel_rfl) (by kernel_rfl) (
  TOk.cons (by kernel_rfl) (by decide) (by kernel_rfl) (by kernel_rfl) (
  TOk.cons (by kernel_rfl) (by decide) (by kernel_rfl) (by kernel_rfl) (
  TOk.cons (by kernel_rfl) (by decide) (by kernel_rfl) (by kernel_rfl) (
  TOk.cons (by kernel_rfl) (by decide) (by kernel_rfl) (by kernel_rfl) (
  TOk.cons (by kernel_rfl) (by decide) (by kernel_rfl) (by kernel_rfl) (
  TOk.cons (by kernel_rfl) (by decide) (by kernel_rfl) (by kernel_rfl) (
  TOk.cons (by kernel_rfl) (by decide) (by kernel_rfl) (by kernel_rfl) (
  TOk.cons (by kernel_rfl) (by decide) (by kernel_rfl) (by kernel_rfl) (
  TOk.cons (by kernel_rfl) (by decide) (by kernel_rfl) (by kernel_rfl) (
  TOk.cons (by kernel_rfl) (by decide) (by kernel_rfl) (by kernel_rfl) (
  TOk.cons (by kernel_rfl) (by decide) (by kernel_rfl) (by kernel_rfl) (
  TOk.cons (by kernel_rfl) (by decide) (by kernel_rfl) (by kernel_rfl) (
  TOk.cons (by kernel_rfl) (by decide) (by kernel_rfl) (by kernel_rfl) (
  TOk.cons (by kernel_rfl) (by decide) (by kernel_rfl) (by kernel_rfl) (
  TOk.cons (by kernel_rfl) (by decide) (by kernel_rfl) (by kernel_rfl) (
  TOk.cons (by kernel_rfl) (by decide) (by kernel_rfl) (by kernel_rfl) (
  TOk.cons (by kernel_rfl) (by decide) (by kernel_rfl) (by kernel_rfl) (
  TOk.cons (by kernel_rfl) (by decide) (by kernel_rfl) (by kernel_rfl) (
  TOk.cons (by kernel_rfl) (by decide) (by kernel_rfl) (by kernel_rfl) (
  TOk.cons (by kernel_rfl) (by decide) (by kernel_rfl) (by kernel_rfl) (
  TOk.cons (by kernel_rfl) (by decide) (by kernel_rfl) (by kernel_rfl) (
  TOk.cons (by kernel_rfl) (by decide) (by kernel_rfl) (by kernel_rfl) (
  TOk.cons (by kernel_rfl) (by decide) (by kernel_rfl) (by kernel_rfl) (
  TOk.cons (by kernel_rfl) (by decide) (by kernel_rfl) (by kernel_rfl) (
  TOk.cons (by kernel_rfl) (by decide) (by kernel_rfl) (by kernel_rfl) (
  TOk.cons (by kernel_rfl) (by decide) (by kernel_rfl) (by kernel_rfl) (
  TOk.cons (by kernel_rfl) (by decide) (by kernel_rfl) (by kernel_rfl) (
  TOk.cons (by kernel_rfl) (by decide) (by kernel_rfl) (by kernel_rfl) (
  TOk.cons (by kernel_rfl) (by decide) (by kernel_rfl) (by kernel_rfl) (
  TOk.cons (by kernel_rfl) (by decide) (by kernel_rfl) (by kernel_rfl) (
  TOk.cons (by kernel_rfl) (by decide) (by kernel_rfl) (by kernel_rfl) (
  TOk.cons (by kernel_rfl) (by decide) (by kernel_rfl) (by kernel_rfl) (
  TOk.cons (by kernel_rfl) (by decide) (by kernel_rfl) (by kernel_rfl) (
  TOk.cons (by kernel_rfl) (by decide) (by kernel_rfl) (by kernel_rfl) (
  TOk.cons (by kernel_rfl) (by decide) (by kernel_rfl) (by kernel_rfl) (
  TOk.cons (by kernel_rfl) (by decide) (by kernel_rfl) (by kernel_rfl) (
  TOk.cons (by kernel_rfl) (by decide) (by kernel_rfl) (by kernel_rfl) (
  TOk.cons (by kernel_rfl) (by decide) (by kernel_rfl) (by kernel_rfl) (
  TOk.cons (by kernel_rfl) (by decide) (by kernel_rfl) (by kernel_rfl) (
  TOk.cons (by kernel_rfl) (by decide) (by kernel_rfl) (by kernel_rfl) (
  TOk.cons (by kernel_rfl) (by decide) (by kernel_rfl) (by kernel_rfl) (
  TOk.cons (by kernel_rfl) (by decide) (by kernel_rfl) (by kernel_rfl) (
  TOk.cons (by kernel_rfl) (by decide) (by kernel_rfl) (by kernel_rfl) (
  TOk.cons (by kernel_rfl) (by decide) (by kernel_rfl) (by kernel_rfl) (
  TOk.cons (by kernel_rfl) (by decide) (by kernel_rfl) (by kernel_rfl) (
  TOk.cons (by kernel_rfl) (by decide) (by kernel_rfl) (by kernel_rfl) (
  TOk.cons (by kernel_rfl) (by decide) (by kernel_rfl) (by kernel_rfl) (
  TOk.cons (by kernel_rfl) (by decide) (by kernel_rfl) (by kernel_rfl) (
  TOk.cons (by kernel_rfl) (by decide) (by kernel_rfl) (by kernel_rfl) (
  TOk.cons (by kernel_rfl) (by decide) (by kernel_rfl) (by kernel_rfl) (
  TOk.cons (by kernel_rfl) (by decide) (by kernel_rfl) (by kernel_rfl) (
  TOk.cons (by kernel_rfl) (by decide) (by kernel_rfl) (by kernel_rfl) (
  TOk.nil)))))))))))))))))))))))))))))))))))))))))))))))))))))))))))))))))))))))))))))))))))))))))))))))))))))))))))))))))))))))))))))))))
theorem mixed : Tryz.prog.follows .mixedOrders = true := by kernel_rfl
end Go.Proofs.YtpbbnoggkbfkoaaGreat
