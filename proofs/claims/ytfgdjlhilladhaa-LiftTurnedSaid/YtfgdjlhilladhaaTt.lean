/- The types of this translation, as the evaluator wants them. -/
import Derived.Test.YtfgdjlhilladhaaEvR
import Derived.Test.YtfgdjlhilladhaaChecked
namespace Go.Proofs.Ytfgdjlhilladhaa
open Go Go.Ev Go.Proofs
def tt : List (Nat × TI) :=
 [(1, ⟨(TypeDesc.func #[] #[] Bool.false), 1, 8, Value.nilFunc, none⟩),
 (2, ⟨(TypeDesc.int IntKind.i64), 1, 8, (Value.int IntKind.i64 (0 : Int)), some (.int .i64)⟩),
 (3, ⟨(TypeDesc.int IntKind.i64), 1, 8, (Value.int IntKind.i64 (0 : Int)), some (.int .i64)⟩),
 (4, ⟨TypeDesc.bool, 1, 1, (Value.bool Bool.false), some .bool⟩),
 (5, ⟨(TypeDesc.int IntKind.u8), 1, 1, (Value.int IntKind.u8 (0 : Int)), some (.int .u8)⟩),
 (6, ⟨(TypeDesc.int IntKind.u8), 1, 1, (Value.int IntKind.u8 (0 : Int)), some (.int .u8)⟩),
 (7, ⟨(TypeDesc.struct #[(Field.mk "x" 2 0 Bool.false "" "runtime" 0), (Field.mk "y" 3 1 Bool.false "" "runtime" 8), (Field.mk "signed" 4 2 Bool.false "" "runtime" 16), (Field.mk "code" 6 3 Bool.false "" "runtime" 17)]), 4, 24, (Value.agg #[(Value.int IntKind.i64 (0 : Int)), (Value.int IntKind.i64 (0 : Int)), (Value.bool Bool.false), (Value.int IntKind.u8 (0 : Int))]), some (.prod (.int .i64) (.prod (.int .i64) (.prod .bool (.int .u8))))⟩),
 (8, ⟨(TypeDesc.struct #[(Field.mk "x" 2 0 Bool.false "" "runtime" 0), (Field.mk "y" 3 1 Bool.false "" "runtime" 8), (Field.mk "signed" 4 2 Bool.false "" "runtime" 16), (Field.mk "code" 6 3 Bool.false "" "runtime" 17)]), 4, 24, (Value.agg #[(Value.int IntKind.i64 (0 : Int)), (Value.int IntKind.i64 (0 : Int)), (Value.bool Bool.false), (Value.int IntKind.u8 (0 : Int))]), some (.prod (.int .i64) (.prod (.int .i64) (.prod .bool (.int .u8))))⟩),
 (9, ⟨TypeDesc.string, 1, 16, (Value.string (ByteArray.mk #[])), some .str⟩),
 (10, ⟨TypeDesc.string, 1, 16, (Value.string (ByteArray.mk #[])), some .str⟩),
 (11, ⟨TypeDesc.string, 1, 16, (Value.string (ByteArray.mk #[])), some .str⟩),
 (12, ⟨(TypeDesc.int IntKind.u64), 1, 8, (Value.int IntKind.u64 (0 : Int)), some (.int .u64)⟩),
 (15, ⟨(TypeDesc.pointer 180), 1, 8, (Value.pointer Option.none), none⟩),
 (16, ⟨(TypeDesc.pointer 183), 1, 8, (Value.pointer Option.none), none⟩),
 (17, ⟨(TypeDesc.pointer 192), 1, 8, (Value.pointer Option.none), none⟩),
 (21, ⟨(TypeDesc.int IntKind.i32), 1, 4, (Value.int IntKind.i32 (0 : Int)), some (.int .i32)⟩),
 (22, ⟨(TypeDesc.struct #[(Field.mk "X" 3 0 Bool.false "" "" 0), (Field.mk "Y" 3 1 Bool.false "" "" 8)]), 2, 16, (Value.agg #[(Value.int IntKind.i64 (0 : Int)), (Value.int IntKind.i64 (0 : Int))]), some (.prod (.int .i64) (.int .i64))⟩),
 (23, ⟨(TypeDesc.struct #[(Field.mk "X" 3 0 Bool.false "" "" 0), (Field.mk "Y" 3 1 Bool.false "" "" 8)]), 2, 16, (Value.agg #[(Value.int IntKind.i64 (0 : Int)), (Value.int IntKind.i64 (0 : Int))]), some (.prod (.int .i64) (.int .i64))⟩),
 (24, ⟨(TypeDesc.array 3 23), 6, 48, (Value.agg #[(Value.int IntKind.i64 (0 : Int)), (Value.int IntKind.i64 (0 : Int)), (Value.int IntKind.i64 (0 : Int)), (Value.int IntKind.i64 (0 : Int)), (Value.int IntKind.i64 (0 : Int)), (Value.int IntKind.i64 (0 : Int))]), some (.prod (.prod (.int .i64) (.int .i64)) (.prod (.prod (.int .i64) (.int .i64)) (.prod (.int .i64) (.int .i64))))⟩),
 (25, ⟨(TypeDesc.struct #[(Field.mk "X" 3 0 Bool.false "" "" 0), (Field.mk "Y" 3 1 Bool.false "" "" 8), (Field.mk "Z" 3 2 Bool.false "" "" 16)]), 3, 24, (Value.agg #[(Value.int IntKind.i64 (0 : Int)), (Value.int IntKind.i64 (0 : Int)), (Value.int IntKind.i64 (0 : Int))]), some (.prod (.int .i64) (.prod (.int .i64) (.int .i64)))⟩),
 (26, ⟨(TypeDesc.struct #[(Field.mk "X" 3 0 Bool.false "" "" 0), (Field.mk "Y" 3 1 Bool.false "" "" 8), (Field.mk "Z" 3 2 Bool.false "" "" 16)]), 3, 24, (Value.agg #[(Value.int IntKind.i64 (0 : Int)), (Value.int IntKind.i64 (0 : Int)), (Value.int IntKind.i64 (0 : Int))]), some (.prod (.int .i64) (.prod (.int .i64) (.int .i64)))⟩),
 (27, ⟨(TypeDesc.array 3 26), 9, 72, (Value.agg #[(Value.int IntKind.i64 (0 : Int)), (Value.int IntKind.i64 (0 : Int)), (Value.int IntKind.i64 (0 : Int)), (Value.int IntKind.i64 (0 : Int)), (Value.int IntKind.i64 (0 : Int)), (Value.int IntKind.i64 (0 : Int)), (Value.int IntKind.i64 (0 : Int)), (Value.int IntKind.i64 (0 : Int)), (Value.int IntKind.i64 (0 : Int))]), some (.prod (.prod (.int .i64) (.prod (.int .i64) (.int .i64))) (.prod (.prod (.int .i64) (.prod (.int .i64) (.int .i64))) (.prod (.int .i64) (.prod (.int .i64) (.int .i64)))))⟩),
 (28, ⟨(TypeDesc.int IntKind.i64), 1, 8, (Value.int IntKind.i64 (0 : Int)), some (.int .i64)⟩),
 (30, ⟨(TypeDesc.func #[3, 3, 24, 27] #[26, 28] Bool.false), 1, 8, Value.nilFunc, none⟩),
 (31, ⟨(TypeDesc.func #[] #[4] Bool.false), 1, 8, Value.nilFunc, none⟩),
 (33, ⟨(TypeDesc.func #[3, 3] #[23, 28] Bool.false), 1, 8, Value.nilFunc, none⟩),
 (35, ⟨(TypeDesc.func #[23, 24] #[3, 28] Bool.false), 1, 8, Value.nilFunc, none⟩),
 (36, ⟨(TypeDesc.func #[3, 3, 24, 27] #[4] Bool.false), 1, 8, Value.nilFunc, none⟩),
 (37, ⟨(TypeDesc.struct #[(Field.mk "N" 3 0 Bool.false "" "" 0), (Field.mk "D" 3 1 Bool.false "" "" 8)]), 2, 16, (Value.agg #[(Value.int IntKind.i64 (0 : Int)), (Value.int IntKind.i64 (0 : Int))]), some (.prod (.int .i64) (.int .i64))⟩),
 (38, ⟨(TypeDesc.struct #[(Field.mk "N" 3 0 Bool.false "" "" 0), (Field.mk "D" 3 1 Bool.false "" "" 8)]), 2, 16, (Value.agg #[(Value.int IntKind.i64 (0 : Int)), (Value.int IntKind.i64 (0 : Int))]), some (.prod (.int .i64) (.int .i64))⟩),
 (40, ⟨(TypeDesc.func #[23, 24] #[23, 38, 28] Bool.false), 1, 8, Value.nilFunc, none⟩),
 (41, ⟨(TypeDesc.func #[23, 24, 27] #[26, 28] Bool.false), 1, 8, Value.nilFunc, none⟩),
 (42, ⟨(TypeDesc.slice 55), 1, 24, (Value.slice Option.none 0 0), some (.sl (.prod (.int .i64) (.prod (.int .i64) (.prod (.int .i64) (.prod (.int .i64) (.prod (.int .i64) (.int .i64)))))))⟩),
 (44, ⟨(TypeDesc.func #[49, 53] #[42, 28] Bool.false), 1, 8, Value.nilFunc, none⟩),
 (45, ⟨(TypeDesc.slice 26), 1, 24, (Value.slice Option.none 0 0), some (.sl (.prod (.int .i64) (.prod (.int .i64) (.int .i64))))⟩),
 (46, ⟨(TypeDesc.slice 23), 1, 24, (Value.slice Option.none 0 0), some (.sl (.prod (.int .i64) (.int .i64)))⟩),
 (47, ⟨(TypeDesc.slice 117), 1, 24, (Value.slice Option.none 0 0), some (.sl (.prod (.prod (.int .i64) (.prod (.int .i64) (.int .i64))) (.prod (.prod (.int .i64) (.prod (.int .i64) (.int .i64))) (.prod (.int .i64) (.prod (.int .i64) (.int .i64))))))⟩),
 (48, ⟨(TypeDesc.struct #[(Field.mk "V" 45 0 Bool.false "" "" 0), (Field.mk "T" 46 1 Bool.false "" "" 24), (Field.mk "N" 45 2 Bool.false "" "" 48), (Field.mk "Tris" 47 3 Bool.false "" "" 72)]), 4, 96, (Value.agg #[(Value.slice Option.none 0 0), (Value.slice Option.none 0 0), (Value.slice Option.none 0 0), (Value.slice Option.none 0 0)]), some (.prod (.sl (.prod (.int .i64) (.prod (.int .i64) (.int .i64)))) (.prod (.sl (.prod (.int .i64) (.int .i64))) (.prod (.sl (.prod (.int .i64) (.prod (.int .i64) (.int .i64)))) (.sl (.prod (.prod (.int .i64) (.prod (.int .i64) (.int .i64))) (.prod (.prod (.int .i64) (.prod (.int .i64) (.int .i64))) (.prod (.int .i64) (.prod (.int .i64) (.int .i64)))))))))⟩),
 (49, ⟨(TypeDesc.struct #[(Field.mk "V" 45 0 Bool.false "" "" 0), (Field.mk "T" 46 1 Bool.false "" "" 24), (Field.mk "N" 45 2 Bool.false "" "" 48), (Field.mk "Tris" 47 3 Bool.false "" "" 72)]), 4, 96, (Value.agg #[(Value.slice Option.none 0 0), (Value.slice Option.none 0 0), (Value.slice Option.none 0 0), (Value.slice Option.none 0 0)]), some (.prod (.sl (.prod (.int .i64) (.prod (.int .i64) (.int .i64)))) (.prod (.sl (.prod (.int .i64) (.int .i64))) (.prod (.sl (.prod (.int .i64) (.prod (.int .i64) (.int .i64)))) (.sl (.prod (.prod (.int .i64) (.prod (.int .i64) (.int .i64))) (.prod (.prod (.int .i64) (.prod (.int .i64) (.int .i64))) (.prod (.int .i64) (.prod (.int .i64) (.int .i64)))))))))⟩),
 (50, ⟨(TypeDesc.slice 98), 1, 24, (Value.slice Option.none 0 0), some (.sl (.prod (.sl (.int .i64)) (.prod (.sl (.prod (.prod (.int .i64) (.int .i64)) (.prod (.prod (.int .i64) (.int .i64)) (.prod (.int .i64) (.int .i64))))) (.prod (.int .i64) (.int .i64)))))⟩),
 (51, ⟨(TypeDesc.slice 102), 1, 24, (Value.slice Option.none 0 0), some (.sl (.prod (.int .i64) (.prod (.int .i64) (.prod (.int .i64) (.int .i64)))))⟩),
 (52, ⟨(TypeDesc.struct #[(Field.mk "W" 3 0 Bool.false "" "" 0), (Field.mk "H" 3 1 Bool.false "" "" 8), (Field.mk "Pad" 3 2 Bool.false "" "" 16), (Field.mk "Patches" 50 3 Bool.false "" "" 24), (Field.mk "Rects" 51 4 Bool.false "" "" 48)]), 5, 72, (Value.agg #[(Value.int IntKind.i64 (0 : Int)), (Value.int IntKind.i64 (0 : Int)), (Value.int IntKind.i64 (0 : Int)), (Value.slice Option.none 0 0), (Value.slice Option.none 0 0)]), some (.prod (.int .i64) (.prod (.int .i64) (.prod (.int .i64) (.prod (.sl (.prod (.sl (.int .i64)) (.prod (.sl (.prod (.prod (.int .i64) (.int .i64)) (.prod (.prod (.int .i64) (.int .i64)) (.prod (.int .i64) (.int .i64))))) (.prod (.int .i64) (.int .i64))))) (.sl (.prod (.int .i64) (.prod (.int .i64) (.prod (.int .i64) (.int .i64)))))))))⟩),
 (53, ⟨(TypeDesc.struct #[(Field.mk "W" 3 0 Bool.false "" "" 0), (Field.mk "H" 3 1 Bool.false "" "" 8), (Field.mk "Pad" 3 2 Bool.false "" "" 16), (Field.mk "Patches" 50 3 Bool.false "" "" 24), (Field.mk "Rects" 51 4 Bool.false "" "" 48)]), 5, 72, (Value.agg #[(Value.int IntKind.i64 (0 : Int)), (Value.int IntKind.i64 (0 : Int)), (Value.int IntKind.i64 (0 : Int)), (Value.slice Option.none 0 0), (Value.slice Option.none 0 0)]), some (.prod (.int .i64) (.prod (.int .i64) (.prod (.int .i64) (.prod (.sl (.prod (.sl (.int .i64)) (.prod (.sl (.prod (.prod (.int .i64) (.int .i64)) (.prod (.prod (.int .i64) (.int .i64)) (.prod (.int .i64) (.int .i64))))) (.prod (.int .i64) (.int .i64))))) (.sl (.prod (.int .i64) (.prod (.int .i64) (.prod (.int .i64) (.int .i64)))))))))⟩),
 (54, ⟨(TypeDesc.struct #[(Field.mk "X" 3 0 Bool.false "" "" 0), (Field.mk "Y" 3 1 Bool.false "" "" 8), (Field.mk "Tri" 3 2 Bool.false "" "" 16), (Field.mk "At" 26 3 Bool.false "" "" 24)]), 6, 48, (Value.agg #[(Value.int IntKind.i64 (0 : Int)), (Value.int IntKind.i64 (0 : Int)), (Value.int IntKind.i64 (0 : Int)), (Value.int IntKind.i64 (0 : Int)), (Value.int IntKind.i64 (0 : Int)), (Value.int IntKind.i64 (0 : Int))]), some (.prod (.int .i64) (.prod (.int .i64) (.prod (.int .i64) (.prod (.int .i64) (.prod (.int .i64) (.int .i64))))))⟩),
 (55, ⟨(TypeDesc.struct #[(Field.mk "X" 3 0 Bool.false "" "" 0), (Field.mk "Y" 3 1 Bool.false "" "" 8), (Field.mk "Tri" 3 2 Bool.false "" "" 16), (Field.mk "At" 26 3 Bool.false "" "" 24)]), 6, 48, (Value.agg #[(Value.int IntKind.i64 (0 : Int)), (Value.int IntKind.i64 (0 : Int)), (Value.int IntKind.i64 (0 : Int)), (Value.int IntKind.i64 (0 : Int)), (Value.int IntKind.i64 (0 : Int)), (Value.int IntKind.i64 (0 : Int))]), some (.prod (.int .i64) (.prod (.int .i64) (.prod (.int .i64) (.prod (.int .i64) (.prod (.int .i64) (.int .i64))))))⟩),
 (57, ⟨(TypeDesc.func #[42, 3, 3] #[55, 4] Bool.false), 1, 8, Value.nilFunc, none⟩),
 (58, ⟨(TypeDesc.func #[46] #[4] Bool.true), 1, 8, Value.nilFunc, none⟩),
 (59, ⟨(TypeDesc.func #[24] #[4] Bool.false), 1, 8, Value.nilFunc, none⟩),
 (60, ⟨(TypeDesc.func #[88] #[] Bool.false), 1, 8, Value.nilFunc, none⟩),
 (61, ⟨(TypeDesc.func #[88] #[] Bool.false), 1, 8, Value.nilFunc, none⟩),
 (62, ⟨(TypeDesc.func #[24] #[61] Bool.false), 1, 8, Value.nilFunc, none⟩),
 (63, ⟨(TypeDesc.func #[23] #[3] Bool.false), 1, 8, Value.nilFunc, none⟩),
 (64, ⟨(TypeDesc.struct #[(Field.mk "at" 23 0 Bool.false "" "limewash/near" 0), (Field.mk "end" 3 2 Bool.false "" "limewash/near" 16), (Field.mk "dist" 38 3 Bool.false "" "limewash/near" 24)]), 5, 40, (Value.agg #[(Value.int IntKind.i64 (0 : Int)), (Value.int IntKind.i64 (0 : Int)), (Value.int IntKind.i64 (0 : Int)), (Value.int IntKind.i64 (0 : Int)), (Value.int IntKind.i64 (0 : Int))]), some (.prod (.prod (.int .i64) (.int .i64)) (.prod (.int .i64) (.prod (.int .i64) (.int .i64))))⟩),
 (65, ⟨(TypeDesc.struct #[(Field.mk "at" 23 0 Bool.false "" "limewash/near" 0), (Field.mk "end" 3 2 Bool.false "" "limewash/near" 16), (Field.mk "dist" 38 3 Bool.false "" "limewash/near" 24)]), 5, 40, (Value.agg #[(Value.int IntKind.i64 (0 : Int)), (Value.int IntKind.i64 (0 : Int)), (Value.int IntKind.i64 (0 : Int)), (Value.int IntKind.i64 (0 : Int)), (Value.int IntKind.i64 (0 : Int))]), some (.prod (.prod (.int .i64) (.int .i64)) (.prod (.int .i64) (.prod (.int .i64) (.int .i64))))⟩),
 (66, ⟨(TypeDesc.func #[23, 23, 23] #[65] Bool.false), 1, 8, Value.nilFunc, none⟩),
 (67, ⟨(TypeDesc.func #[38, 38] #[3] Bool.false), 1, 8, Value.nilFunc, none⟩),
 (68, ⟨(TypeDesc.func #[65] #[] Bool.false), 1, 8, Value.nilFunc, none⟩),
 (69, ⟨(TypeDesc.func #[45] #[4] Bool.true), 1, 8, Value.nilFunc, none⟩),
 (70, ⟨(TypeDesc.array 3 3), 3, 24, (Value.agg #[(Value.int IntKind.i64 (0 : Int)), (Value.int IntKind.i64 (0 : Int)), (Value.int IntKind.i64 (0 : Int))]), some (.prod (.int .i64) (.prod (.int .i64) (.int .i64)))⟩),
 (72, ⟨(TypeDesc.func #[23, 24] #[70, 3, 28] Bool.false), 1, 8, Value.nilFunc, none⟩),
 (73, ⟨(TypeDesc.func #[3, 3] #[3] Bool.false), 1, 8, Value.nilFunc, none⟩),
 (74, ⟨(TypeDesc.slice 24), 1, 24, (Value.slice Option.none 0 0), some (.sl (.prod (.prod (.int .i64) (.int .i64)) (.prod (.prod (.int .i64) (.int .i64)) (.prod (.int .i64) (.int .i64)))))⟩),
 (75, ⟨(TypeDesc.slice 3), 1, 24, (Value.slice Option.none 0 0), some (.sl (.int .i64))⟩),
 (77, ⟨(TypeDesc.func #[53] #[74, 75, 28] Bool.false), 1, 8, Value.nilFunc, none⟩),
 (79, ⟨(TypeDesc.func #[49, 53] #[75, 4] Bool.false), 1, 8, Value.nilFunc, none⟩),
 (80, ⟨(TypeDesc.func #[49] #[4] Bool.false), 1, 8, Value.nilFunc, none⟩),
 (82, ⟨(TypeDesc.func #[3, 3, 74] #[75, 28] Bool.true), 1, 8, Value.nilFunc, none⟩),
 (83, ⟨(TypeDesc.func #[49, 3] #[27] Bool.false), 1, 8, Value.nilFunc, none⟩),
 (84, ⟨(TypeDesc.func #[55] #[4] Bool.false), 1, 8, Value.nilFunc, none⟩),
 (85, ⟨(TypeDesc.func #[42, 84] #[3] Bool.false), 1, 8, Value.nilFunc, none⟩),
 (86, ⟨(TypeDesc.func #[3, 75] #[4] Bool.true), 1, 8, Value.nilFunc, none⟩),
 (87, ⟨(TypeDesc.func #[23, 23, 23] #[3, 28] Bool.false), 1, 8, Value.nilFunc, none⟩),
 (88, ⟨(TypeDesc.func #[63] #[4] Bool.false), 1, 8, Value.nilFunc, none⟩),
 (89, ⟨(TypeDesc.func #[23, 23] #[23] Bool.false), 1, 8, Value.nilFunc, none⟩),
 (90, ⟨(TypeDesc.func #[23, 23] #[3] Bool.false), 1, 8, Value.nilFunc, none⟩),
 (91, ⟨(TypeDesc.func #[23, 23, 3] #[65] Bool.false), 1, 8, Value.nilFunc, none⟩),
 (92, ⟨(TypeDesc.struct #[(Field.mk "N" 3 0 Bool.false "" "" 0), (Field.mk "D" 3 1 Bool.false "" "" 8)]), 2, 16, (Value.agg #[(Value.int IntKind.i64 (0 : Int)), (Value.int IntKind.i64 (0 : Int))]), some (.prod (.int .i64) (.int .i64))⟩),
 (93, ⟨(TypeDesc.func #[92] #[3] Bool.false), 1, 8, Value.nilFunc, none⟩),
 (95, ⟨(TypeDesc.func #[3, 3] #[3, 3, 28] Bool.false), 1, 8, Value.nilFunc, none⟩),
 (96, ⟨(TypeDesc.func #[53] #[4] Bool.false), 1, 8, Value.nilFunc, none⟩),
 (97, ⟨(TypeDesc.struct #[(Field.mk "Tris" 75 0 Bool.false "" "" 0), (Field.mk "UV" 74 1 Bool.false "" "" 24), (Field.mk "W" 3 2 Bool.false "" "" 48), (Field.mk "H" 3 3 Bool.false "" "" 56)]), 4, 64, (Value.agg #[(Value.slice Option.none 0 0), (Value.slice Option.none 0 0), (Value.int IntKind.i64 (0 : Int)), (Value.int IntKind.i64 (0 : Int))]), some (.prod (.sl (.int .i64)) (.prod (.sl (.prod (.prod (.int .i64) (.int .i64)) (.prod (.prod (.int .i64) (.int .i64)) (.prod (.int .i64) (.int .i64))))) (.prod (.int .i64) (.int .i64))))⟩),
 (98, ⟨(TypeDesc.struct #[(Field.mk "Tris" 75 0 Bool.false "" "" 0), (Field.mk "UV" 74 1 Bool.false "" "" 24), (Field.mk "W" 3 2 Bool.false "" "" 48), (Field.mk "H" 3 3 Bool.false "" "" 56)]), 4, 64, (Value.agg #[(Value.slice Option.none 0 0), (Value.slice Option.none 0 0), (Value.int IntKind.i64 (0 : Int)), (Value.int IntKind.i64 (0 : Int))]), some (.prod (.sl (.int .i64)) (.prod (.sl (.prod (.prod (.int .i64) (.int .i64)) (.prod (.prod (.int .i64) (.int .i64)) (.prod (.int .i64) (.int .i64))))) (.prod (.int .i64) (.int .i64))))⟩),
 (100, ⟨(TypeDesc.func #[98, 23] #[74, 28] Bool.false), 1, 8, Value.nilFunc, none⟩),
 (101, ⟨(TypeDesc.struct #[(Field.mk "X" 3 0 Bool.false "" "" 0), (Field.mk "Y" 3 1 Bool.false "" "" 8), (Field.mk "W" 3 2 Bool.false "" "" 16), (Field.mk "H" 3 3 Bool.false "" "" 24)]), 4, 32, (Value.agg #[(Value.int IntKind.i64 (0 : Int)), (Value.int IntKind.i64 (0 : Int)), (Value.int IntKind.i64 (0 : Int)), (Value.int IntKind.i64 (0 : Int))]), some (.prod (.int .i64) (.prod (.int .i64) (.prod (.int .i64) (.int .i64))))⟩),
 (102, ⟨(TypeDesc.struct #[(Field.mk "X" 3 0 Bool.false "" "" 0), (Field.mk "Y" 3 1 Bool.false "" "" 8), (Field.mk "W" 3 2 Bool.false "" "" 16), (Field.mk "H" 3 3 Bool.false "" "" 24)]), 4, 32, (Value.agg #[(Value.int IntKind.i64 (0 : Int)), (Value.int IntKind.i64 (0 : Int)), (Value.int IntKind.i64 (0 : Int)), (Value.int IntKind.i64 (0 : Int))]), some (.prod (.int .i64) (.prod (.int .i64) (.prod (.int .i64) (.int .i64))))⟩),
 (103, ⟨(TypeDesc.func #[75, 3] #[75] Bool.false), 1, 8, Value.nilFunc, none⟩),
 (104, ⟨(TypeDesc.func #[3] #[4] Bool.false), 1, 8, Value.nilFunc, none⟩),
 (105, ⟨(TypeDesc.func #[75, 104] #[4] Bool.false), 1, 8, Value.nilFunc, none⟩),
 (106, ⟨(TypeDesc.func #[45, 107] #[4] Bool.false), 1, 8, Value.nilFunc, none⟩),
 (107, ⟨(TypeDesc.func #[26] #[4] Bool.false), 1, 8, Value.nilFunc, none⟩),
 (108, ⟨(TypeDesc.func #[23] #[4] Bool.false), 1, 8, Value.nilFunc, none⟩),
 (109, ⟨(TypeDesc.func #[46, 108] #[4] Bool.false), 1, 8, Value.nilFunc, none⟩),
 (110, ⟨(TypeDesc.func #[143] #[] Bool.false), 1, 8, Value.nilFunc, none⟩),
 (111, ⟨(TypeDesc.func #[143] #[] Bool.false), 1, 8, Value.nilFunc, none⟩),
 (112, ⟨(TypeDesc.func #[24] #[111] Bool.false), 1, 8, Value.nilFunc, none⟩),
 (114, ⟨(TypeDesc.func #[3, 3, 24] #[4, 28] Bool.false), 1, 8, Value.nilFunc, none⟩),
 (115, ⟨(TypeDesc.struct #[(Field.mk "V" 3 0 Bool.false "" "" 0), (Field.mk "T" 3 1 Bool.false "" "" 8), (Field.mk "N" 3 2 Bool.false "" "" 16)]), 3, 24, (Value.agg #[(Value.int IntKind.i64 (0 : Int)), (Value.int IntKind.i64 (0 : Int)), (Value.int IntKind.i64 (0 : Int))]), some (.prod (.int .i64) (.prod (.int .i64) (.int .i64)))⟩),
 (116, ⟨(TypeDesc.struct #[(Field.mk "V" 3 0 Bool.false "" "" 0), (Field.mk "T" 3 1 Bool.false "" "" 8), (Field.mk "N" 3 2 Bool.false "" "" 16)]), 3, 24, (Value.agg #[(Value.int IntKind.i64 (0 : Int)), (Value.int IntKind.i64 (0 : Int)), (Value.int IntKind.i64 (0 : Int))]), some (.prod (.int .i64) (.prod (.int .i64) (.int .i64)))⟩),
 (117, ⟨(TypeDesc.array 3 116), 9, 72, (Value.agg #[(Value.int IntKind.i64 (0 : Int)), (Value.int IntKind.i64 (0 : Int)), (Value.int IntKind.i64 (0 : Int)), (Value.int IntKind.i64 (0 : Int)), (Value.int IntKind.i64 (0 : Int)), (Value.int IntKind.i64 (0 : Int)), (Value.int IntKind.i64 (0 : Int)), (Value.int IntKind.i64 (0 : Int)), (Value.int IntKind.i64 (0 : Int))]), some (.prod (.prod (.int .i64) (.prod (.int .i64) (.int .i64))) (.prod (.prod (.int .i64) (.prod (.int .i64) (.int .i64))) (.prod (.int .i64) (.prod (.int .i64) (.int .i64)))))⟩),
 (118, ⟨(TypeDesc.array 3 23), 6, 48, (Value.agg #[(Value.int IntKind.i64 (0 : Int)), (Value.int IntKind.i64 (0 : Int)), (Value.int IntKind.i64 (0 : Int)), (Value.int IntKind.i64 (0 : Int)), (Value.int IntKind.i64 (0 : Int)), (Value.int IntKind.i64 (0 : Int))]), some (.prod (.prod (.int .i64) (.int .i64)) (.prod (.prod (.int .i64) (.int .i64)) (.prod (.int .i64) (.int .i64))))⟩),
 (119, ⟨(TypeDesc.func #[] #[3, 28] Bool.false), 1, 8, Value.nilFunc, none⟩),
 (120, ⟨(TypeDesc.struct #[(Field.mk "Hi" 3 0 Bool.false "" "" 0), (Field.mk "Lo" 3 1 Bool.false "" "" 8)]), 2, 16, (Value.agg #[(Value.int IntKind.i64 (0 : Int)), (Value.int IntKind.i64 (0 : Int))]), some (.prod (.int .i64) (.int .i64))⟩),
 (121, ⟨(TypeDesc.struct #[(Field.mk "Hi" 3 0 Bool.false "" "" 0), (Field.mk "Lo" 3 1 Bool.false "" "" 8)]), 2, 16, (Value.agg #[(Value.int IntKind.i64 (0 : Int)), (Value.int IntKind.i64 (0 : Int))]), some (.prod (.int .i64) (.int .i64))⟩),
 (123, ⟨(TypeDesc.func #[3, 3] #[121, 28] Bool.false), 1, 8, Value.nilFunc, none⟩),
 (124, ⟨(TypeDesc.func #[121, 121] #[3] Bool.false), 1, 8, Value.nilFunc, none⟩),
 (125, ⟨(TypeDesc.func #[75] #[3] Bool.true), 1, 8, Value.nilFunc, none⟩),
 (126, ⟨(TypeDesc.func #[3, 3] #[28] Bool.false), 1, 8, Value.nilFunc, none⟩),
 (127, ⟨(TypeDesc.func #[3, 3, 3] #[4] Bool.false), 1, 8, Value.nilFunc, none⟩),
 (128, ⟨(TypeDesc.slice 98), 1, 24, (Value.slice Option.none 0 0), some (.sl (.prod (.sl (.int .i64)) (.prod (.sl (.prod (.prod (.int .i64) (.int .i64)) (.prod (.prod (.int .i64) (.int .i64)) (.prod (.int .i64) (.int .i64))))) (.prod (.int .i64) (.int .i64)))))⟩),
 (129, ⟨(TypeDesc.struct #[(Field.mk "Patch" 98 0 Bool.true "" "" 0), (Field.mk "pad" 3 4 Bool.false "" "limewash/atlas" 64)]), 5, 72, (Value.agg #[(Value.slice Option.none 0 0), (Value.slice Option.none 0 0), (Value.int IntKind.i64 (0 : Int)), (Value.int IntKind.i64 (0 : Int)), (Value.int IntKind.i64 (0 : Int))]), some (.prod (.prod (.sl (.int .i64)) (.prod (.sl (.prod (.prod (.int .i64) (.int .i64)) (.prod (.prod (.int .i64) (.int .i64)) (.prod (.int .i64) (.int .i64))))) (.prod (.int .i64) (.int .i64)))) (.int .i64))⟩),
 (130, ⟨(TypeDesc.struct #[(Field.mk "Patch" 98 0 Bool.true "" "" 0), (Field.mk "pad" 3 4 Bool.false "" "limewash/atlas" 64)]), 5, 72, (Value.agg #[(Value.slice Option.none 0 0), (Value.slice Option.none 0 0), (Value.int IntKind.i64 (0 : Int)), (Value.int IntKind.i64 (0 : Int)), (Value.int IntKind.i64 (0 : Int))]), some (.prod (.prod (.sl (.int .i64)) (.prod (.sl (.prod (.prod (.int .i64) (.int .i64)) (.prod (.prod (.int .i64) (.int .i64)) (.prod (.int .i64) (.int .i64))))) (.prod (.int .i64) (.int .i64)))) (.int .i64))⟩),
 (131, ⟨(TypeDesc.func #[] #[23] Bool.false), 1, 8, Value.nilFunc, none⟩),
 (132, ⟨(TypeDesc.func #[3, 3, 51] #[4] Bool.true), 1, 8, Value.nilFunc, none⟩),
 (133, ⟨(TypeDesc.func #[98] #[4] Bool.false), 1, 8, Value.nilFunc, none⟩),
 (134, ⟨(TypeDesc.func #[74, 135] #[74] Bool.false), 1, 8, Value.nilFunc, none⟩),
 (135, ⟨(TypeDesc.func #[23] #[23] Bool.false), 1, 8, Value.nilFunc, none⟩),
 (136, ⟨(TypeDesc.int IntKind.u64), 1, 8, (Value.int IntKind.u64 (0 : Int)), some (.int .u64)⟩),
 (138, ⟨(TypeDesc.func #[136, 136] #[136, 136] Bool.false), 1, 8, Value.nilFunc, none⟩),
 (139, ⟨(TypeDesc.func #[75, 104] #[3] Bool.false), 1, 8, Value.nilFunc, none⟩),
 (140, ⟨(TypeDesc.func #[3, 3, 4] #[4] Bool.false), 1, 8, Value.nilFunc, none⟩),
 (141, ⟨(TypeDesc.func #[45, 107] #[3] Bool.false), 1, 8, Value.nilFunc, none⟩),
 (142, ⟨(TypeDesc.func #[46, 108] #[3] Bool.false), 1, 8, Value.nilFunc, none⟩),
 (143, ⟨(TypeDesc.func #[3, 3] #[4] Bool.false), 1, 8, Value.nilFunc, none⟩),
 (144, ⟨(TypeDesc.func #[23, 3, 24] #[4, 28] Bool.false), 1, 8, Value.nilFunc, none⟩),
 (145, ⟨(TypeDesc.func #[23, 23] #[3, 28] Bool.false), 1, 8, Value.nilFunc, none⟩),
 (146, ⟨(TypeDesc.func #[75] #[4] Bool.true), 1, 8, Value.nilFunc, none⟩),
 (147, ⟨(TypeDesc.array 2 3), 2, 16, (Value.agg #[(Value.int IntKind.i64 (0 : Int)), (Value.int IntKind.i64 (0 : Int))]), some (.prod (.int .i64) (.int .i64))⟩),
 (148, ⟨(TypeDesc.func #[3] #[147] Bool.false), 1, 8, Value.nilFunc, none⟩),
 (149, ⟨(TypeDesc.func #[121] #[121, 28] Bool.false), 1, 8, Value.nilFunc, none⟩),
 (150, ⟨(TypeDesc.map 3 4), 1, 8, (Value.map Option.none), none⟩),
 (151, ⟨(TypeDesc.func #[51, 153] #[4] Bool.false), 1, 8, Value.nilFunc, none⟩),
 (152, ⟨(TypeDesc.func #[102, 102] #[4] Bool.false), 1, 8, Value.nilFunc, none⟩),
 (153, ⟨(TypeDesc.func #[102] #[4] Bool.false), 1, 8, Value.nilFunc, none⟩),
 (154, ⟨(TypeDesc.func #[74, 59] #[4] Bool.false), 1, 8, Value.nilFunc, none⟩),
 (156, ⟨(TypeDesc.func #[74] #[23, 23, 28] Bool.true), 1, 8, Value.nilFunc, none⟩),
 (158, ⟨(TypeDesc.func #[23] #[3, 3] Bool.false), 1, 8, Value.nilFunc, none⟩),
 (159, ⟨(TypeDesc.func #[74] #[4] Bool.false), 1, 8, Value.nilFunc, none⟩),
 (160, ⟨(TypeDesc.func #[74] #[74] Bool.false), 1, 8, Value.nilFunc, none⟩),
 (161, ⟨(TypeDesc.int IntKind.u32), 1, 4, (Value.int IntKind.u32 (0 : Int)), some (.int .u32)⟩),
 (163, ⟨(TypeDesc.func #[161, 161] #[161, 161] Bool.false), 1, 8, Value.nilFunc, none⟩),
 (164, ⟨(TypeDesc.int IntKind.u64), 1, 8, (Value.int IntKind.u64 (0 : Int)), some (.int .u64)⟩),
 (166, ⟨(TypeDesc.func #[164, 164] #[164, 164] Bool.false), 1, 8, Value.nilFunc, none⟩),
 (167, ⟨(TypeDesc.func #[24, 3, 46] #[4] Bool.true), 1, 8, Value.nilFunc, none⟩),
 (168, ⟨(TypeDesc.func #[121] #[4] Bool.false), 1, 8, Value.nilFunc, none⟩),
 (169, ⟨(TypeDesc.func #[51, 153] #[3] Bool.false), 1, 8, Value.nilFunc, none⟩),
 (170, ⟨(TypeDesc.func #[3, 3, 3, 3] #[4] Bool.false), 1, 8, Value.nilFunc, none⟩),
 (171, ⟨(TypeDesc.func #[74, 59] #[3] Bool.false), 1, 8, Value.nilFunc, none⟩),
 (172, ⟨(TypeDesc.func #[108] #[] Bool.false), 1, 8, Value.nilFunc, none⟩),
 (173, ⟨(TypeDesc.func #[108] #[] Bool.false), 1, 8, Value.nilFunc, none⟩),
 (174, ⟨(TypeDesc.func #[74] #[173] Bool.false), 1, 8, Value.nilFunc, none⟩),
 (175, ⟨(TypeDesc.func #[3] #[3, 28] Bool.false), 1, 8, Value.nilFunc, none⟩),
 (176, ⟨(TypeDesc.func #[24, 24] #[4, 28] Bool.false), 1, 8, Value.nilFunc, none⟩),
 (177, ⟨(TypeDesc.func #[24, 24, 3] #[4, 28] Bool.false), 1, 8, Value.nilFunc, none⟩),
 (178, ⟨(TypeDesc.func #[] #[9] Bool.false), 1, 8, Value.nilFunc, none⟩),
 (184, ⟨(TypeDesc.func #[] #[3] Bool.false), 1, 8, Value.nilFunc, none⟩),
 (185, ⟨(TypeDesc.int IntKind.u8), 1, 1, (Value.int IntKind.u8 (0 : Int)), some (.int .u8)⟩),
 (186, ⟨(TypeDesc.int IntKind.u8), 1, 1, (Value.int IntKind.u8 (0 : Int)), some (.int .u8)⟩),
 (187, ⟨(TypeDesc.func #[195, 195] #[4] Bool.false), 1, 8, Value.nilFunc, none⟩),
 (188, ⟨(TypeDesc.pointer 5), 1, 8, (Value.pointer Option.none), none⟩),
 (189, ⟨(TypeDesc.int IntKind.i32), 1, 4, (Value.int IntKind.i32 (0 : Int)), some (.int .i32)⟩),
 (190, ⟨(TypeDesc.int IntKind.i32), 1, 4, (Value.int IntKind.i32 (0 : Int)), some (.int .i32)⟩),
 (193, ⟨(TypeDesc.func #[] #[23, 3, 38] Bool.false), 1, 8, Value.nilFunc, none⟩),
 (194, ⟨(TypeDesc.func #[] #[98] Bool.false), 1, 8, Value.nilFunc, none⟩),
 (195, ⟨TypeDesc.unsafePointer, 1, 8, (Value.pointer Option.none), none⟩)]
set_option maxRecDepth 100000 in
theorem tt_ok : TOk Try.prog tt :=
  TOk.cons (by kernel_rfl) (by decide) (by kernel_rfl) (by kernel_rfl) (
  TOk.cons (by kernel_rfl) (by decide) (by kernel_rfl) (by kernel_rfl) (
  TOk.cons (by kernel_rfl) (by decide) (by kernel_rfl) (by kernel_rfl) (
  TOk.cons (by kernel_rfl) (by decide) (by kernel_rfl) (by kernel_rfl) (
  TOk.cons (by kernel_rfl) (by decide) (by kernel_rfl) (by kernel_rfl) (
  TOk.cons (by kernel_rfl) (by decide) (by kernel_rfl) (by kernel_rfl) (
  TOk.cons (by kernel_rfl) (by decide) (by kernel_rfl) (by kernel_rfl) (
  TOk.cons (by kernel_rfl) (by decide) (by kernel_rfl) (by kernel_rfl) (
  TOk.cons (by kernel_rfl) (by decide) (by kernel_rfl) (by kernel_rfl) (
  TOk.cons (by kernel_rfl) (by decide) (by kernel_rfl) (by kernel_rfl) (
  TOk.cons (by kernel_rfl) (by decide) (by kernel_rfl) (by kernel_rfl) (
  TOk.cons (by kernel_rfl) (by decide) (by kernel_rfl) (by kernel_rfl) (
  TOk.cons (by kernel_rfl) (by decide) (by kernel_rfl) (by kernel_rfl) (
  TOk.cons (by kernel_rfl) (by decide) (by kernel_rfl) (by kernel_rfl) (
  TOk.cons (by kernel_rfl) (by decide) (by kernel_rfl) (by kernel_rfl) (
  TOk.cons (by kernel_rfl) (by decide) (by kernel_rfl) (by kernel_rfl) (
  TOk.cons (by kernel_rfl) (by decide) (by kernel_rfl) (by kernel_rfl) (
  TOk.cons (by kernel_rfl) (by decide) (by kernel_rfl) (by kernel_rfl) (
  TOk.cons (by kernel_rfl) (by decide) (by kernel_rfl) (by kernel_rfl) (
  TOk.cons (by kernel_rfl) (by decide) (by kernel_rfl) (by kernel_rfl) (
  TOk.cons (by kernel_rfl) (by decide) (by kernel_rfl) (by kernel_rfl) (
  TOk.cons (by kernel_rfl) (by decide) (by kernel_rfl) (by kernel_rfl) (
  TOk.cons (by kernel_rfl) (by decide) (by kernel_rfl) (by kernel_rfl) (
  TOk.cons (by kernel_rfl) (by decide) (by kernel_rfl) (by kernel_rfl) (
  TOk.cons (by kernel_rfl) (by decide) (by kernel_rfl) (by kernel_rfl) (
  TOk.cons (by kernel_rfl) (by decide) (by kernel_rfl) (by kernel_rfl) (
  TOk.cons (by kernel_rfl) (by decide) (by kernel_rfl) (by kernel_rfl) (
  TOk.cons (by kernel_rfl) (by decide) (by kernel_rfl) (by kernel_rfl) (
  TOk.cons (by kernel_rfl) (by decide) (by kernel_rfl) (by kernel_rfl) (
  TOk.cons (by kernel_rfl) (by decide) (by kernel_rfl) (by kernel_rfl) (
  TOk.cons (by kernel_rfl) (by decide) (by kernel_rfl) (by kernel_rfl) (
  TOk.cons (by kernel_rfl) (by decide) (by kernel_rfl) (by kernel_rfl) (
  TOk.cons (by kernel_rfl) (by decide) (by kernel_rfl) (by kernel_rfl) (
  TOk.cons (by kernel_rfl) (by decide) (by kernel_rfl) (by kernel_rfl) (
  TOk.cons (by kernel_rfl) (by decide) (by kernel_rfl) (by kernel_rfl) (
  TOk.cons (by kernel_rfl) (by decide) (by kernel_rfl) (by kernel_rfl) (
  TOk.cons (by kernel_rfl) (by decide) (by kernel_rfl) (by kernel_rfl) (
  TOk.cons (by kernel_rfl) (by decide) (by kernel_rfl) (by kernel_rfl) (
  TOk.cons (by kernel_rfl) (by decide) (by kernel_rfl) (by kernel_rfl) (
  TOk.cons (by kernel_rfl) (by decide) (by kernel_rfl) (by kernel_rfl) (
  TOk.cons (by kernel_rfl) (by decide) (by kernel_rfl) (by kernel_rfl) (
  TOk.cons (by kernel_rfl) (by decide) (by kernel_rfl) (by kernel_rfl) (
  TOk.cons (by kernel_rfl) (by decide) (by kernel_rfl) (by kernel_rfl) (
  TOk.cons (by kernel_rfl) (by decide) (by kernel_rfl) (by kernel_rfl) (
  TOk.cons (by kernel_rfl) (by decide) (by kernel_rfl) (by kernel_rfl) (
  TOk.cons (by kernel_rfl) (by decide) (by kernel_rfl) (by kernel_rfl) (
  TOk.cons (by kernel_rfl) (by decide) (by kernel_rfl) (by kernel_rfl) (
  TOk.cons (by kernel_rfl) (by decide) (by kernel_rfl) (by kernel_rfl) (
  TOk.cons (by kernel_rfl) (by decide) (by kernel_rfl) (by kernel_rfl) (
  TOk.cons (by kernel_rfl) (by decide) (by kernel_rfl) (by kernel_rfl) (
  TOk.cons (by kernel_rfl) (by decide) (by kernel_rfl) (by kernel_rfl) (
  TOk.cons (by kernel_rfl) (by decide) (by kernel_rfl) (by kernel_rfl) (
  TOk.cons (by kernel_rfl) (by decide) (by kernel_rfl) (by kernel_rfl) (
  TOk.cons (by kernel_rfl) (by decide) (by kernel_rfl) (by kernel_rfl) (
  TOk.cons (by kernel_rfl) (by decide) (by kernel_rfl) (by kernel_rfl) (
  TOk.cons (by kernel_rfl) (by decide) (by kernel_rfl) (by kernel_rfl) (
  TOk.cons (by kernel_rfl) (by decide) (by kernel_rfl) (by kernel_rfl) (
  TOk.cons (by kernel_rfl) (by decide) (by kernel_rfl) (by kernel_rfl) (
  TOk.cons (by kernel_rfl) (by decide) (by kernel_rfl) (by kernel_rfl) (
  TOk.cons (by kernel_rfl) (by decide) (by kernel_rfl) (by kernel_rfl) (
  TOk.cons (by kernel_rfl) (by decide) (by kernel_rfl) (by kernel_rfl) (
  TOk.cons (by kernel_rfl) (by decide) (by kernel_rfl) (by kernel_rfl) (
  TOk.cons (by kernel_rfl) (by decide) (by kernel_rfl) (by kernel_rfl) (
  TOk.cons (by kernel_rfl) (by decide) (by kernel_rfl) (by kernel_rfl) (
  TOk.cons (by kernel_rfl) (by decide) (by kernel_rfl) (by kernel_rfl) (
  TOk.cons (by kernel_rfl) (by decide) (by kernel_rfl) (by kernel_rfl) (
  TOk.cons (by kernel_rfl) (by decide) (by kernel_rfl) (by kernel_rfl) (
  TOk.cons (by kernel_rfl) (by decide) (by kernel_rfl) (by kernel_rfl) (
  TOk.cons (by kernel_rfl) (by decide) (by kernel_rfl) (by kernel_rfl) (
  TOk.cons (by kernel_rfl) (by decide) (by kernel_rfl) (by kernel_rfl) (
  TOk.cons (by kernel_rfl) (by decide) (by kernel_rfl) (by kernel_rfl) (
  TOk.cons (by kernel_rfl) (by decide) (by kernel_rfl) (by kernel_rfl) (
  TOk.cons (by kernel_rfl) (by decide) (by kernel_rfl) (by kernel_rfl) (
  TOk.cons (by kernel_rfl) (by decide) (by kernel_rfl) (by kernel_rfl) (
  TOk.cons (by kernel_rfl) (by decide) (by kernel_rfl) (by kernel_rfl) (
  TOk.cons (by kernel_rfl) (by decide) (by kernel_rfl) (by kernel_rfl) (
  TOk.cons (by kernel_rfl) (by decide) (by kernel_rfl) (by kernel_rfl) (
  TOk.cons (by kernel_rfl) (by decide) (by kernel_rfl) (by kernel_rfl) (
  TOk.cons (by kernel_rfl) (by decide) (by kernel_rfl) (by kernel_rfl) (
  TOk.cons (by kernel_rfl) (by decide) (by kernel_rfl) (by kernel_rfl) (
  TOk.cons (by kernel_rfl) (by decide) (by kernel_rfl) (by kernel_rfl) (
  TOk.cons (by kernel_rfl) (by decide) (by kernel_rfl) (by kernel_rfl) (
  TOk.cons (by kernel_rfl) (by decide) (by kernel_rfl) (by kernel_rfl) (
  TOk.cons (by kernel_rfl) (by decide) (by kernel_rfl) (by kernel_rfl) (
  TOk.cons (by kernel_rfl) (by decide) (by kernel_rfl) (by kernel_rfl) (
  TOk.cons (by kernel_rfl) (by decide) (by kernel_rfl) (by kernel_rfl) (
  TOk.cons (by kernel_rfl) (by decide) (by kernel_rfl) (by kernel_rfl) (
  TOk.cons (by kernel_rfl) (by decide) (by kernel_rfl) (by kernel_rfl) (
  TOk.cons (by kernel_rfl) (by decide) (by kernel_rfl) (by kernel_rfl) (
  TOk.cons (by kernel_rfl) (by decide) (by kernel_rfl) (by kernel_rfl) (
  TOk.cons (by kernel_rfl) (by decide) (by kernel_rfl) (by kernel_rfl) (
  TOk.cons (by kernel_rfl) (by decide) (by kernel_rfl) (by kernel_rfl) (
  TOk.cons (by kernel_rfl) (by decide) (by kernel_rfl) (by kernel_rfl) (
  TOk.cons (by kernel_rfl) (by decide) (by kernel_rfl) (by kernel_rfl) (
  TOk.cons (by kernel_rfl) (by decide) (by kernel_rfl) (by kernel_rfl) (
  TOk.cons (by kernel_rfl) (by decide) (by kernel_rfl) (by kernel_rfl) (
  TOk.cons (by kernel_rfl) (by decide) (by kernel_rfl) (by kernel_rfl) (
  TOk.cons (by kernel_rfl) (by decide) (by kernel_rfl) (by kernel_rfl) (
  TOk.cons (by kernel_rfl) (by decide) (by kernel_rfl) (by kernel_rfl) (
  TOk.cons (by kernel_rfl) (by decide) (by kernel_rfl) (by kernel_rfl) (
  TOk.cons (by kernel_rfl) (by decide) (by kernel_rfl) (by kernel_rfl) (
  TOk.cons (by kernel_rfl) (by decide) (by kernel_rfl) (by kernel_rfl) (
  TOk.cons (by kernel_rfl) (by decide) (by kernel_rfl) (by kernel_rfl) (
  TOk.cons (by kernel_rfl) (by decide) (by kernel_rfl) (by kernel_rfl) (
  TOk.cons (by kernel_rfl) (by decide) (by kernel_rfl) (by kernel_rfl) (
  TOk.cons (by kernel_rfl) (by decide) (by kernel_rfl) (by kernel_rfl) (
  TOk.cons (by kernel_rfl) (by decide) (by kernel_rfl) (by kernel_rfl) (
  TOk.cons (by kernel_rfl) (by decide) (by kernel_rfl) (by kernel_rfl) (
  TOk.cons (by kernel_rfl) (by decide) (by kernel_rfl) (by kernel_rfl) (
  TOk.cons (by kernel_rfl) (by decide) (by kernel_rfl) (by kernel_rfl) (
  TOk.cons (by kernel_rfl) (by decide) (by kernel_rfl) (by kernel_rfl) (
  TOk.cons (by kernel_rfl) (by decide) (by kernel_rfl) (by kernel_rfl) (
  TOk.cons (by kernel_rfl) (by decide) (by kernel_rfl) (by kernel_rfl) (
  TOk.cons (by kernel_rfl) (by decide) (by kernel_rfl) (by kernel_rfl) (
  TOk.cons (by kernel_rfl) (by decide) (by kernel_rfl) (by kernel_rfl) (
  TOk.cons (by kernel_rfl) (by decide) (by kernel_rfl) (by kernel_rfl) (
  TOk.cons (by kernel_rfl) (by decide) (by kernel_rfl) (by kernel_rfl) (
  TOk.cons (by kernel_rfl) (by decide) (by kernel_rfl) (by kernel_rfl) (
  TOk.cons (by kernel_rfl) (by decide) (by kernel_rfl) (by kernel_rfl) (
  TOk.cons (by kernel_rfl) (by decide) (by kernel_rfl) (by kernel_rfl) (
  TOk.cons (by kernel_rfl) (by decide) (by kernel_rfl) (by kernel_rfl) (
  TOk.cons (by kernel_rfl) (by decide) (by kernel_rfl) (by kernel_rfl) (
  TOk.cons (by kernel_rfl) (by decide) (by kernel_rfl) (by kernel_rfl) (
  TOk.cons (by kernel_rfl) (by decide) (by kernel_rfl) (by kernel_rfl) (
  TOk.cons (by kernel_rfl) (by decide) (by kernel_rfl) (by kernel_rfl) (
  TOk.cons (by kernel_rfl) (by decide) (by kernel_rfl) (by kernel_rfl) (
  TOk.cons (by kernel_rfl) (by decide) (by kernel_rfl) (by kernel_rfl) (
  TOk.cons (by kernel_rfl) (by decide) (by kernel_rfl) (by kernel_rfl) (
  TOk.cons (by kernel_rfl) (by decide) (by kernel_rfl) (by kernel_rfl) (
  TOk.cons (by kernel_rfl) (by decide) (by kernel_rfl) (by kernel_rfl) (
  TOk.cons (by kernel_rfl) (by decide) (by kernel_rfl) (by kernel_rfl) (
  TOk.cons (by kernel_rfl) (by decide) (by kernel_rfl) (by kernel_rfl) (
  TOk.cons (by kernel_rfl) (by decide) (by kernel_rfl) (by kernel_rfl) (
  TOk.cons (by kernel_rfl) (by decide) (by kernel_rfl) (by kernel_rfl) (
  TOk.cons (by kernel_rfl) (by decide) (by kernel_rfl) (by kernel_rfl) (
  TOk.cons (by kernel_rfl) (by decide) (by kernel_rfl) (by kernel_rfl) (
  TOk.cons (by kernel_rfl) (by decide) (by kernel_rfl) (by kernel_rfl) (
  TOk.cons (by kernel_rfl) (by decide) (by kernel_rfl) (by kernel_rfl) (
  TOk.cons (by kernel_rfl) (by decide) (by kernel_rfl) (by kernel_rfl) (
  TOk.cons (by kernel_rfl) (by decide) (by kernel_rfl) (by kernel_rfl) (
  TOk.cons (by kernel_rfl) (by decide) (by kernel_rfl) (by kernel_rfl) (
  TOk.cons (by kernel_rfl) (by decide) (by kernel_rfl) (by kernel_rfl) (
  TOk.cons (by kernel_rfl) (by decide) (by kernel_rfl) (by kernel_rfl) (
  TOk.cons (by kernel_rfl) (by decide) (by kernel_rfl) (by kernel_rfl) (
  TOk.cons (by kernel_rfl) (by decide) (by kernel_rfl) (by kernel_rfl) (
  TOk.cons (by kernel_rfl) (by decide) (by kernel_rfl) (by kernel_rfl) (
  TOk.cons (by kernel_rfl) (by decide) (by kernel_rfl) (by kernel_rfl) (
  TOk.cons (by kernel_rfl) (by decide) (by kernel_rfl) (by kernel_rfl) (
  TOk.cons (by kernel_rfl) (by decide) (by kernel_rfl) (by kernel_rfl) (
  TOk.cons (by kernel_rfl) (by decide) (by kernel_rfl) (by kernel_rfl) (
  TOk.cons (by kernel_rfl) (by decide) (by kernel_rfl) (by kernel_rfl) (
  TOk.cons (by kernel_rfl) (by decide) (by kernel_rfl) (by kernel_rfl) (
  TOk.cons (by kernel_rfl) (by decide) (by kernel_rfl) (by kernel_rfl) (
  TOk.cons (by kernel_rfl) (by decide) (by kernel_rfl) (by kernel_rfl) (
  TOk.cons (by kernel_rfl) (by decide) (by kernel_rfl) (by kernel_rfl) (
  TOk.cons (by kernel_rfl) (by decide) (by kernel_rfl) (by kernel_rfl) (
  TOk.cons (by kernel_rfl) (by decide) (by kernel_rfl) (by kernel_rfl) (
  TOk.cons (by kernel_rfl) (by decide) (by kernel_rfl) (by kernel_rfl) (
  TOk.cons (by kernel_rfl) (by decide) (by kernel_rfl) (by kernel_rfl) (
  TOk.cons (by kernel_rfl) (by decide) (by kernel_rfl) (by kernel_rfl) (
  TOk.cons (by kernel_rfl) (by decide) (by kernel_rfl) (by kernel_rfl) (
  TOk.cons (by kernel_rfl) (by decide) (by kernel_rfl) (by kernel_rfl) (
  TOk.cons (by kernel_rfl) (by decide) (by kernel_rfl) (by kernel_rfl) (
  TOk.cons (by kernel_rfl) (by decide) (by kernel_rfl) (by kernel_rfl) (
  TOk.nil))))))))))))))))))))))))))))))))))))))))))))))))))))))))))))))))))))))))))))))))))))))))))))))))))))))))))))))))))))))))))))))))))))))))))))))))))))))))))))))))))))
theorem mixed : Try.prog.follows .mixedOrders = true := by kernel_rfl
end Go.Proofs.Ytfgdjlhilladhaa
