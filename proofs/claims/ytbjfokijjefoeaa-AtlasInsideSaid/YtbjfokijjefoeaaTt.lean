/- The types of this translation, as the evaluator wants them. -/
import Derived.Test.YtbjfokijjefoeaaEvR
import Derived.Test.YtbjfokijjefoeaaChecked
namespace Go.Proofs.Ytbjfokijjefoeaa
open Go Go.Ev Go.Proofs
def tt : List (Nat × TI) :=
 [(1, ⟨(TypeDesc.func #[] #[] Bool.false), 1, 8, Value.nilFunc, none⟩),
 (2, ⟨(TypeDesc.int IntKind.i64), 1, 8, (Value.int IntKind.i64 (0 : Int)), some (.int .i64)⟩),
 (3, ⟨(TypeDesc.int IntKind.i64), 1, 8, (Value.int IntKind.i64 (0 : Int)), some (.int .i64)⟩),
 (4, ⟨TypeDesc.bool, 1, 1, (Value.bool Bool.false), some .bool⟩),
 (5, ⟨(TypeDesc.int IntKind.u8), 1, 1, (Value.int IntKind.u8 (0 : Int)), some (.int .u8)⟩),
 (6, ⟨(TypeDesc.int IntKind.u8), 1, 1, (Value.int IntKind.u8 (0 : Int)), some (.int .u8)⟩),
 (7, ⟨(TypeDesc.struct #[(Field.mk "x" 2 0 Bool.false "" "runtime" 0), (Field.mk "y" 3 1 Bool.false "" "runtime" 8), (Field.mk "signed" 4 2 Bool.false "" "runtime" 16), (Field.mk "code" 6 3 Bool.false "" "runtime" 17)]), 4, 24, (Value.agg #[(Value.int IntKind.i64 (0 : Int)), (Value.int IntKind.i64 (0 : Int)), (Value.bool Bool.false), (Value.int IntKind.u8 (0 : Int))]), some (.prod (.int .i64) (.prod (.int .i64) (.prod .bool (.int .u8))))⟩),
 (8, ⟨(TypeDesc.struct #[(Field.mk "x" 2 0 Bool.false "" "runtime" 0), (Field.mk "y" 3 1 Bool.false "" "runtime" 8), (Field.mk "signed" 4 2 Bool.false "" "runtime" 16), (Field.mk "code" 6 3 Bool.false "" "runtime" 17)]), 4, 24, (Value.agg #[(Value.int IntKind.i64 (0 : Int)), (Value.int IntKind.i64 (0 : Int)), (Value.bool Bool.false), (Value.int IntKind.u8 (0 : Int))]), some (.prod (.int .i64) (.prod (.int .i64) (.prod .bool (.int .u8))))⟩),
 (9, ⟨TypeDesc.string, 1, 16, (Value.string (ByteArray.mk #[])), some .str⟩),
 (10, ⟨TypeDesc.string, 1, 16, (Value.string (ByteArray.mk #[])), some .str⟩),
 (11, ⟨TypeDesc.string, 1, 16, (Value.string (ByteArray.mk #[])), some .str⟩),
 (12, ⟨(TypeDesc.int IntKind.u64), 1, 8, (Value.int IntKind.u64 (0 : Int)), some (.int .u64)⟩),
 (15, ⟨(TypeDesc.pointer 151), 1, 8, (Value.pointer Option.none), none⟩),
 (16, ⟨(TypeDesc.pointer 154), 1, 8, (Value.pointer Option.none), none⟩),
 (17, ⟨(TypeDesc.pointer 163), 1, 8, (Value.pointer Option.none), none⟩),
 (21, ⟨(TypeDesc.int IntKind.i32), 1, 4, (Value.int IntKind.i32 (0 : Int)), some (.int .i32)⟩),
 (22, ⟨(TypeDesc.slice 36), 1, 24, (Value.slice Option.none 0 0), some (.sl (.prod (.sl (.int .i64)) (.prod (.sl (.prod (.prod (.int .i64) (.int .i64)) (.prod (.prod (.int .i64) (.int .i64)) (.prod (.int .i64) (.int .i64))))) (.prod (.int .i64) (.int .i64)))))⟩),
 (23, ⟨(TypeDesc.func #[22] #[4] Bool.false), 1, 8, Value.nilFunc, none⟩),
 (24, ⟨(TypeDesc.slice 41), 1, 24, (Value.slice Option.none 0 0), some (.sl (.prod (.int .i64) (.prod (.int .i64) (.prod (.int .i64) (.int .i64)))))⟩),
 (25, ⟨(TypeDesc.struct #[(Field.mk "W" 3 0 Bool.false "" "" 0), (Field.mk "H" 3 1 Bool.false "" "" 8), (Field.mk "Pad" 3 2 Bool.false "" "" 16), (Field.mk "Patches" 22 3 Bool.false "" "" 24), (Field.mk "Rects" 24 4 Bool.false "" "" 48)]), 5, 72, (Value.agg #[(Value.int IntKind.i64 (0 : Int)), (Value.int IntKind.i64 (0 : Int)), (Value.int IntKind.i64 (0 : Int)), (Value.slice Option.none 0 0), (Value.slice Option.none 0 0)]), some (.prod (.int .i64) (.prod (.int .i64) (.prod (.int .i64) (.prod (.sl (.prod (.sl (.int .i64)) (.prod (.sl (.prod (.prod (.int .i64) (.int .i64)) (.prod (.prod (.int .i64) (.int .i64)) (.prod (.int .i64) (.int .i64))))) (.prod (.int .i64) (.int .i64))))) (.sl (.prod (.int .i64) (.prod (.int .i64) (.prod (.int .i64) (.int .i64)))))))))⟩),
 (26, ⟨(TypeDesc.struct #[(Field.mk "W" 3 0 Bool.false "" "" 0), (Field.mk "H" 3 1 Bool.false "" "" 8), (Field.mk "Pad" 3 2 Bool.false "" "" 16), (Field.mk "Patches" 22 3 Bool.false "" "" 24), (Field.mk "Rects" 24 4 Bool.false "" "" 48)]), 5, 72, (Value.agg #[(Value.int IntKind.i64 (0 : Int)), (Value.int IntKind.i64 (0 : Int)), (Value.int IntKind.i64 (0 : Int)), (Value.slice Option.none 0 0), (Value.slice Option.none 0 0)]), some (.prod (.int .i64) (.prod (.int .i64) (.prod (.int .i64) (.prod (.sl (.prod (.sl (.int .i64)) (.prod (.sl (.prod (.prod (.int .i64) (.int .i64)) (.prod (.prod (.int .i64) (.int .i64)) (.prod (.int .i64) (.int .i64))))) (.prod (.int .i64) (.int .i64))))) (.sl (.prod (.int .i64) (.prod (.int .i64) (.prod (.int .i64) (.int .i64)))))))))⟩),
 (27, ⟨(TypeDesc.int IntKind.i64), 1, 8, (Value.int IntKind.i64 (0 : Int)), some (.int .i64)⟩),
 (29, ⟨(TypeDesc.func #[3, 3, 3, 22] #[26, 27] Bool.true), 1, 8, Value.nilFunc, none⟩),
 (30, ⟨(TypeDesc.func #[] #[4] Bool.false), 1, 8, Value.nilFunc, none⟩),
 (31, ⟨(TypeDesc.func #[26] #[4] Bool.false), 1, 8, Value.nilFunc, none⟩),
 (32, ⟨(TypeDesc.func #[36, 36] #[4] Bool.false), 1, 8, Value.nilFunc, none⟩),
 (33, ⟨(TypeDesc.slice 3), 1, 24, (Value.slice Option.none 0 0), some (.sl (.int .i64))⟩),
 (34, ⟨(TypeDesc.slice 44), 1, 24, (Value.slice Option.none 0 0), some (.sl (.prod (.prod (.int .i64) (.int .i64)) (.prod (.prod (.int .i64) (.int .i64)) (.prod (.int .i64) (.int .i64)))))⟩),
 (35, ⟨(TypeDesc.struct #[(Field.mk "Tris" 33 0 Bool.false "" "" 0), (Field.mk "UV" 34 1 Bool.false "" "" 24), (Field.mk "W" 3 2 Bool.false "" "" 48), (Field.mk "H" 3 3 Bool.false "" "" 56)]), 4, 64, (Value.agg #[(Value.slice Option.none 0 0), (Value.slice Option.none 0 0), (Value.int IntKind.i64 (0 : Int)), (Value.int IntKind.i64 (0 : Int))]), some (.prod (.sl (.int .i64)) (.prod (.sl (.prod (.prod (.int .i64) (.int .i64)) (.prod (.prod (.int .i64) (.int .i64)) (.prod (.int .i64) (.int .i64))))) (.prod (.int .i64) (.int .i64))))⟩),
 (36, ⟨(TypeDesc.struct #[(Field.mk "Tris" 33 0 Bool.false "" "" 0), (Field.mk "UV" 34 1 Bool.false "" "" 24), (Field.mk "W" 3 2 Bool.false "" "" 48), (Field.mk "H" 3 3 Bool.false "" "" 56)]), 4, 64, (Value.agg #[(Value.slice Option.none 0 0), (Value.slice Option.none 0 0), (Value.int IntKind.i64 (0 : Int)), (Value.int IntKind.i64 (0 : Int))]), some (.prod (.sl (.int .i64)) (.prod (.sl (.prod (.prod (.int .i64) (.int .i64)) (.prod (.prod (.int .i64) (.int .i64)) (.prod (.int .i64) (.int .i64))))) (.prod (.int .i64) (.int .i64))))⟩),
 (37, ⟨(TypeDesc.func #[3, 3, 3, 22] #[4] Bool.false), 1, 8, Value.nilFunc, none⟩),
 (39, ⟨(TypeDesc.func #[26] #[34, 33, 27] Bool.false), 1, 8, Value.nilFunc, none⟩),
 (40, ⟨(TypeDesc.struct #[(Field.mk "X" 3 0 Bool.false "" "" 0), (Field.mk "Y" 3 1 Bool.false "" "" 8), (Field.mk "W" 3 2 Bool.false "" "" 16), (Field.mk "H" 3 3 Bool.false "" "" 24)]), 4, 32, (Value.agg #[(Value.int IntKind.i64 (0 : Int)), (Value.int IntKind.i64 (0 : Int)), (Value.int IntKind.i64 (0 : Int)), (Value.int IntKind.i64 (0 : Int))]), some (.prod (.int .i64) (.prod (.int .i64) (.prod (.int .i64) (.int .i64))))⟩),
 (41, ⟨(TypeDesc.struct #[(Field.mk "X" 3 0 Bool.false "" "" 0), (Field.mk "Y" 3 1 Bool.false "" "" 8), (Field.mk "W" 3 2 Bool.false "" "" 16), (Field.mk "H" 3 3 Bool.false "" "" 24)]), 4, 32, (Value.agg #[(Value.int IntKind.i64 (0 : Int)), (Value.int IntKind.i64 (0 : Int)), (Value.int IntKind.i64 (0 : Int)), (Value.int IntKind.i64 (0 : Int))]), some (.prod (.int .i64) (.prod (.int .i64) (.prod (.int .i64) (.int .i64))))⟩),
 (42, ⟨(TypeDesc.struct #[(Field.mk "X" 3 0 Bool.false "" "" 0), (Field.mk "Y" 3 1 Bool.false "" "" 8)]), 2, 16, (Value.agg #[(Value.int IntKind.i64 (0 : Int)), (Value.int IntKind.i64 (0 : Int))]), some (.prod (.int .i64) (.int .i64))⟩),
 (43, ⟨(TypeDesc.struct #[(Field.mk "X" 3 0 Bool.false "" "" 0), (Field.mk "Y" 3 1 Bool.false "" "" 8)]), 2, 16, (Value.agg #[(Value.int IntKind.i64 (0 : Int)), (Value.int IntKind.i64 (0 : Int))]), some (.prod (.int .i64) (.int .i64))⟩),
 (44, ⟨(TypeDesc.array 3 43), 6, 48, (Value.agg #[(Value.int IntKind.i64 (0 : Int)), (Value.int IntKind.i64 (0 : Int)), (Value.int IntKind.i64 (0 : Int)), (Value.int IntKind.i64 (0 : Int)), (Value.int IntKind.i64 (0 : Int)), (Value.int IntKind.i64 (0 : Int))]), some (.prod (.prod (.int .i64) (.int .i64)) (.prod (.prod (.int .i64) (.int .i64)) (.prod (.int .i64) (.int .i64))))⟩),
 (45, ⟨(TypeDesc.func #[43, 44, 3] #[4] Bool.false), 1, 8, Value.nilFunc, none⟩),
 (46, ⟨(TypeDesc.func #[22] #[33] Bool.false), 1, 8, Value.nilFunc, none⟩),
 (47, ⟨(TypeDesc.slice 4), 1, 24, (Value.slice Option.none 0 0), some (.sl .bool)⟩),
 (48, ⟨(TypeDesc.func #[36] #[4] Bool.false), 1, 8, Value.nilFunc, none⟩),
 (49, ⟨(TypeDesc.func #[3, 3, 3] #[4] Bool.false), 1, 8, Value.nilFunc, none⟩),
 (50, ⟨(TypeDesc.slice 36), 1, 24, (Value.slice Option.none 0 0), some (.sl (.prod (.sl (.int .i64)) (.prod (.sl (.prod (.prod (.int .i64) (.int .i64)) (.prod (.prod (.int .i64) (.int .i64)) (.prod (.int .i64) (.int .i64))))) (.prod (.int .i64) (.int .i64)))))⟩),
 (51, ⟨(TypeDesc.slice 43), 1, 24, (Value.slice Option.none 0 0), some (.sl (.prod (.int .i64) (.int .i64)))⟩),
 (52, ⟨(TypeDesc.struct #[(Field.mk "Patch" 36 0 Bool.true "" "" 0), (Field.mk "pad" 3 4 Bool.false "" "limewash/atlas" 64)]), 5, 72, (Value.agg #[(Value.slice Option.none 0 0), (Value.slice Option.none 0 0), (Value.int IntKind.i64 (0 : Int)), (Value.int IntKind.i64 (0 : Int)), (Value.int IntKind.i64 (0 : Int))]), some (.prod (.prod (.sl (.int .i64)) (.prod (.sl (.prod (.prod (.int .i64) (.int .i64)) (.prod (.prod (.int .i64) (.int .i64)) (.prod (.int .i64) (.int .i64))))) (.prod (.int .i64) (.int .i64)))) (.int .i64))⟩),
 (53, ⟨(TypeDesc.struct #[(Field.mk "Patch" 36 0 Bool.true "" "" 0), (Field.mk "pad" 3 4 Bool.false "" "limewash/atlas" 64)]), 5, 72, (Value.agg #[(Value.slice Option.none 0 0), (Value.slice Option.none 0 0), (Value.int IntKind.i64 (0 : Int)), (Value.int IntKind.i64 (0 : Int)), (Value.int IntKind.i64 (0 : Int))]), some (.prod (.prod (.sl (.int .i64)) (.prod (.sl (.prod (.prod (.int .i64) (.int .i64)) (.prod (.prod (.int .i64) (.int .i64)) (.prod (.int .i64) (.int .i64))))) (.prod (.int .i64) (.int .i64)))) (.int .i64))⟩),
 (54, ⟨(TypeDesc.func #[] #[43] Bool.false), 1, 8, Value.nilFunc, none⟩),
 (56, ⟨(TypeDesc.func #[3, 3, 51] #[24, 27] Bool.true), 1, 8, Value.nilFunc, none⟩),
 (57, ⟨(TypeDesc.func #[] #[36] Bool.false), 1, 8, Value.nilFunc, none⟩),
 (58, ⟨(TypeDesc.func #[3, 3, 3] #[36] Bool.false), 1, 8, Value.nilFunc, none⟩),
 (60, ⟨(TypeDesc.func #[26, 3] #[44, 4] Bool.false), 1, 8, Value.nilFunc, none⟩),
 (61, ⟨(TypeDesc.func #[33, 33] #[4] Bool.false), 1, 8, Value.nilFunc, none⟩),
 (62, ⟨(TypeDesc.func #[3, 3, 24] #[4] Bool.true), 1, 8, Value.nilFunc, none⟩),
 (63, ⟨(TypeDesc.func #[34, 34] #[4] Bool.false), 1, 8, Value.nilFunc, none⟩),
 (65, ⟨(TypeDesc.func #[36, 43] #[34, 27] Bool.false), 1, 8, Value.nilFunc, none⟩),
 (66, ⟨(TypeDesc.func #[33, 3] #[33] Bool.false), 1, 8, Value.nilFunc, none⟩),
 (67, ⟨(TypeDesc.func #[33, 68] #[] Bool.false), 1, 8, Value.nilFunc, none⟩),
 (68, ⟨(TypeDesc.func #[3, 3] #[3] Bool.false), 1, 8, Value.nilFunc, none⟩),
 (69, ⟨(TypeDesc.map 3 4), 1, 8, (Value.map Option.none), none⟩),
 (70, ⟨(TypeDesc.func #[33] #[4] Bool.true), 1, 8, Value.nilFunc, none⟩),
 (71, ⟨(TypeDesc.func #[43] #[4] Bool.false), 1, 8, Value.nilFunc, none⟩),
 (72, ⟨(TypeDesc.func #[51, 71] #[4] Bool.false), 1, 8, Value.nilFunc, none⟩),
 (73, ⟨(TypeDesc.slice 3), 1, 24, (Value.slice Option.none 0 0), some (.sl (.int .i64))⟩),
 (75, ⟨(TypeDesc.func #[3, 3, 3] #[3, 3, 4] Bool.false), 1, 8, Value.nilFunc, none⟩),
 (76, ⟨(TypeDesc.func #[3, 3, 3] #[] Bool.false), 1, 8, Value.nilFunc, none⟩),
 (77, ⟨(TypeDesc.func #[33] #[33] Bool.false), 1, 8, Value.nilFunc, none⟩),
 (78, ⟨(TypeDesc.func #[34] #[34] Bool.false), 1, 8, Value.nilFunc, none⟩),
 (79, ⟨(TypeDesc.func #[33, 3] #[3] Bool.false), 1, 8, Value.nilFunc, none⟩),
 (80, ⟨(TypeDesc.func #[24, 82] #[4] Bool.false), 1, 8, Value.nilFunc, none⟩),
 (81, ⟨(TypeDesc.func #[41, 41] #[4] Bool.false), 1, 8, Value.nilFunc, none⟩),
 (82, ⟨(TypeDesc.func #[41] #[4] Bool.false), 1, 8, Value.nilFunc, none⟩),
 (83, ⟨(TypeDesc.func #[34, 84] #[34] Bool.false), 1, 8, Value.nilFunc, none⟩),
 (84, ⟨(TypeDesc.func #[43] #[43] Bool.false), 1, 8, Value.nilFunc, none⟩),
 (85, ⟨(TypeDesc.int IntKind.u64), 1, 8, (Value.int IntKind.u64 (0 : Int)), some (.int .u64)⟩),
 (87, ⟨(TypeDesc.func #[85, 85] #[85, 85] Bool.false), 1, 8, Value.nilFunc, none⟩),
 (88, ⟨(TypeDesc.func #[33, 3, 3, 3, 68] #[] Bool.false), 1, 8, Value.nilFunc, none⟩),
 (89, ⟨(TypeDesc.func #[85] #[3] Bool.false), 1, 8, Value.nilFunc, none⟩),
 (90, ⟨(TypeDesc.func #[33] #[3] Bool.true), 1, 8, Value.nilFunc, none⟩),
 (91, ⟨(TypeDesc.func #[44] #[4] Bool.false), 1, 8, Value.nilFunc, none⟩),
 (92, ⟨(TypeDesc.func #[34, 91] #[4] Bool.false), 1, 8, Value.nilFunc, none⟩),
 (94, ⟨(TypeDesc.func #[34] #[43, 43, 27] Bool.true), 1, 8, Value.nilFunc, none⟩),
 (96, ⟨(TypeDesc.func #[43] #[3, 3] Bool.false), 1, 8, Value.nilFunc, none⟩),
 (97, ⟨(TypeDesc.func #[34] #[4] Bool.false), 1, 8, Value.nilFunc, none⟩),
 (98, ⟨(TypeDesc.func #[51, 71] #[3] Bool.false), 1, 8, Value.nilFunc, none⟩),
 (99, ⟨(TypeDesc.func #[73] #[3] Bool.false), 1, 8, Value.nilFunc, none⟩),
 (100, ⟨(TypeDesc.func #[24, 82] #[3] Bool.false), 1, 8, Value.nilFunc, none⟩),
 (101, ⟨(TypeDesc.func #[3, 3, 3, 3] #[4] Bool.false), 1, 8, Value.nilFunc, none⟩),
 (102, ⟨(TypeDesc.int IntKind.u32), 1, 4, (Value.int IntKind.u32 (0 : Int)), some (.int .u32)⟩),
 (104, ⟨(TypeDesc.func #[102, 102] #[102, 102] Bool.false), 1, 8, Value.nilFunc, none⟩),
 (105, ⟨(TypeDesc.int IntKind.u64), 1, 8, (Value.int IntKind.u64 (0 : Int)), some (.int .u64)⟩),
 (107, ⟨(TypeDesc.func #[105, 105] #[105, 105] Bool.false), 1, 8, Value.nilFunc, none⟩),
 (108, ⟨(TypeDesc.func #[33, 3, 3, 68] #[] Bool.false), 1, 8, Value.nilFunc, none⟩),
 (109, ⟨(TypeDesc.int IntKind.i64), 1, 8, (Value.int IntKind.i64 (0 : Int)), some (.int .i64)⟩),
 (111, ⟨(TypeDesc.func #[33, 3, 3, 68] #[3, 109] Bool.false), 1, 8, Value.nilFunc, none⟩),
 (112, ⟨(TypeDesc.func #[33, 3, 3, 68] #[4] Bool.false), 1, 8, Value.nilFunc, none⟩),
 (113, ⟨(TypeDesc.func #[33, 3, 3, 3, 68] #[3] Bool.false), 1, 8, Value.nilFunc, none⟩),
 (115, ⟨(TypeDesc.func #[33, 3, 3, 3, 68] #[3, 4] Bool.false), 1, 8, Value.nilFunc, none⟩),
 (116, ⟨(TypeDesc.func #[102] #[3] Bool.false), 1, 8, Value.nilFunc, none⟩),
 (117, ⟨(TypeDesc.func #[105] #[3] Bool.false), 1, 8, Value.nilFunc, none⟩),
 (118, ⟨(TypeDesc.func #[3] #[4] Bool.false), 1, 8, Value.nilFunc, none⟩),
 (120, ⟨(TypeDesc.func #[43, 43, 43] #[3, 27] Bool.false), 1, 8, Value.nilFunc, none⟩),
 (121, ⟨(TypeDesc.func #[34, 91] #[3] Bool.false), 1, 8, Value.nilFunc, none⟩),
 (122, ⟨(TypeDesc.func #[71] #[] Bool.false), 1, 8, Value.nilFunc, none⟩),
 (123, ⟨(TypeDesc.func #[71] #[] Bool.false), 1, 8, Value.nilFunc, none⟩),
 (124, ⟨(TypeDesc.func #[34] #[123] Bool.false), 1, 8, Value.nilFunc, none⟩),
 (125, ⟨(TypeDesc.func #[51] #[4] Bool.true), 1, 8, Value.nilFunc, none⟩),
 (126, ⟨(TypeDesc.func #[3] #[3, 27] Bool.false), 1, 8, Value.nilFunc, none⟩),
 (128, ⟨(TypeDesc.func #[44, 44] #[4, 27] Bool.false), 1, 8, Value.nilFunc, none⟩),
 (129, ⟨(TypeDesc.int IntKind.u64), 1, 8, (Value.int IntKind.u64 (0 : Int)), some (.int .u64)⟩),
 (130, ⟨(TypeDesc.func #[3] #[85] Bool.false), 1, 8, Value.nilFunc, none⟩),
 (131, ⟨(TypeDesc.func #[] #[105] Bool.false), 1, 8, Value.nilFunc, none⟩),
 (132, ⟨(TypeDesc.func #[33, 3, 133, 68] #[3] Bool.false), 1, 8, Value.nilFunc, none⟩),
 (133, ⟨(TypeDesc.pointer 3), 1, 8, (Value.pointer Option.none), none⟩),
 (134, ⟨(TypeDesc.func #[33, 3, 3, 3, 133, 68] #[3] Bool.false), 1, 8, Value.nilFunc, none⟩),
 (135, ⟨(TypeDesc.array 3 43), 6, 48, (Value.agg #[(Value.int IntKind.i64 (0 : Int)), (Value.int IntKind.i64 (0 : Int)), (Value.int IntKind.i64 (0 : Int)), (Value.int IntKind.i64 (0 : Int)), (Value.int IntKind.i64 (0 : Int)), (Value.int IntKind.i64 (0 : Int))]), some (.prod (.prod (.int .i64) (.int .i64)) (.prod (.prod (.int .i64) (.int .i64)) (.prod (.int .i64) (.int .i64))))⟩),
 (136, ⟨(TypeDesc.func #[] #[3, 27] Bool.false), 1, 8, Value.nilFunc, none⟩),
 (137, ⟨(TypeDesc.func #[3, 33] #[4] Bool.true), 1, 8, Value.nilFunc, none⟩),
 (138, ⟨(TypeDesc.func #[44, 44, 3] #[4, 27] Bool.false), 1, 8, Value.nilFunc, none⟩),
 (139, ⟨(TypeDesc.pointer 129), 1, 8, (Value.pointer Option.none), none⟩),
 (140, ⟨(TypeDesc.func #[33, 3, 3, 133, 68] #[3, 3] Bool.false), 1, 8, Value.nilFunc, none⟩),
 (141, ⟨(TypeDesc.func #[43, 43] #[3, 27] Bool.false), 1, 8, Value.nilFunc, none⟩),
 (142, ⟨(TypeDesc.func #[43, 43] #[43] Bool.false), 1, 8, Value.nilFunc, none⟩),
 (143, ⟨(TypeDesc.func #[44, 3, 51] #[4] Bool.true), 1, 8, Value.nilFunc, none⟩),
 (144, ⟨(TypeDesc.func #[148] #[] Bool.false), 1, 8, Value.nilFunc, none⟩),
 (145, ⟨(TypeDesc.func #[148] #[] Bool.false), 1, 8, Value.nilFunc, none⟩),
 (146, ⟨(TypeDesc.func #[44] #[145] Bool.false), 1, 8, Value.nilFunc, none⟩),
 (147, ⟨(TypeDesc.func #[43] #[3] Bool.false), 1, 8, Value.nilFunc, none⟩),
 (148, ⟨(TypeDesc.func #[147] #[4] Bool.false), 1, 8, Value.nilFunc, none⟩),
 (149, ⟨(TypeDesc.func #[] #[9] Bool.false), 1, 8, Value.nilFunc, none⟩),
 (155, ⟨(TypeDesc.func #[] #[3] Bool.false), 1, 8, Value.nilFunc, none⟩),
 (156, ⟨(TypeDesc.int IntKind.u8), 1, 1, (Value.int IntKind.u8 (0 : Int)), some (.int .u8)⟩),
 (157, ⟨(TypeDesc.int IntKind.u8), 1, 1, (Value.int IntKind.u8 (0 : Int)), some (.int .u8)⟩),
 (158, ⟨(TypeDesc.func #[164, 164] #[4] Bool.false), 1, 8, Value.nilFunc, none⟩),
 (159, ⟨(TypeDesc.pointer 5), 1, 8, (Value.pointer Option.none), none⟩),
 (160, ⟨(TypeDesc.int IntKind.i32), 1, 4, (Value.int IntKind.i32 (0 : Int)), some (.int .i32)⟩),
 (161, ⟨(TypeDesc.int IntKind.i32), 1, 4, (Value.int IntKind.i32 (0 : Int)), some (.int .i32)⟩),
 (164, ⟨TypeDesc.unsafePointer, 1, 8, (Value.pointer Option.none), none⟩)]
set_option maxRecDepth 100000 in
theorem tt_ok : TOk Try.prog tt :=
  TOk.cons (by kernel_rfl) (by decide) (by kernel_rfl) (by kernel_rfl) (
  TOk.cons (by kernel_rfl) (by decide) (by kernel_rfl) (by kernel_rfl) (
  TOk.cons (by kernel_rfl) (by decide) (by kernel_rfl) (by kernel_rfl) (
  TOk.cons (by kernel_rfl) (by decide) (by kernel_rfl) (by kernel_rfl) (
  TOk.cons (by kernel_rfl) (by decide) (by kernel_rfl) (by kernel_rfl) (
  TOk.cons (by kernel_rfl) (by decide) (by kernel_rfl) (by kernel_rfl) (
  TOk.cons (by kernel_rfl) (by decide) (by kernel_rfl) (by kernel_rfl) (
  TOk.cons (by kernel_rfl) (by decide) (by kernel_rfl) (by kernel_rfl) (
  TOk.cons (by kernel_rfl) (by decide) (by kernel_rfl) (by kernel_rfl) (
  TOk.cons (by kernel_rfl) (by decide) (by kernel_rfl) (by kernel_rfl) (
  TOk.cons (by kernel_rfl) (by decide) (by kernel_rfl) (by kernel_rfl) (
  TOk.cons (by kernel_rfl) (by decide) (by kernel_rfl) (by kernel_rfl) (
  TOk.cons (by kernel_rfl) (by decide) (by kernel_rfl) (by kernel_rfl) (
  TOk.cons (by kernel_rfl) (by decide) (by kernel_rfl) (by kernel_rfl) (
  TOk.cons (by kernel_rfl) (by decide) (by kernel_rfl) (by kernel_rfl) (
  TOk.cons (by kernel_rfl) (by decide) (by kernel_rfl) (by kernel_rfl) (
  TOk.cons (by kernel_rfl) (by decide) (by kernel_rfl) (by kernel_rfl) (
  TOk.cons (by kernel_rfl) (by decide) (by kernel_rfl) (by kernel_rfl) (
  TOk.cons (by kernel_rfl) (by decide) (by kernel_rfl) (by kernel_rfl) (
  TOk.cons (by kernel_rfl) (by decide) (by kernel_rfl) (by kernel_rfl) (
  TOk.cons (by kernel_rfl) (by decide) (by kernel_rfl) (by kernel_rfl) (
  TOk.cons (by kernel_rfl) (by decide) (by kernel_rfl) (by kernel_rfl) (
  TOk.cons (by kernel_rfl) (by decide) (by kernel_rfl) (by kernel_rfl) (
  TOk.cons (by kernel_rfl) (by decide) (by kernel_rfl) (by kernel_rfl) (
  TOk.cons (by kernel_rfl) (by decide) (by kernel_rfl) (by kernel_rfl) (
  TOk.cons (by kernel_rfl) (by decide) (by kernel_rfl) (by kernel_rfl) (
  TOk.cons (by kernel_rfl) (by decide) (by kernel_rfl) (by kernel_rfl) (
  TOk.cons (by kernel_rfl) (by decide) (by kernel_rfl) (by kernel_rfl) (
  TOk.cons (by kernel_rfl) (by decide) (by kernel_rfl) (by kernel_rfl) (
  TOk.cons (by kernel_rfl) (by decide) (by kernel_rfl) (by kernel_rfl) (
  TOk.cons (by kernel_rfl) (by decide) (by kernel_rfl) (by kernel_rfl) (
  TOk.cons (by kernel_rfl) (by decide) (by kernel_rfl) (by kernel_rfl) (
  TOk.cons (by kernel_rfl) (by decide) (by kernel_rfl) (by kernel_rfl) (
  TOk.cons (by kernel_rfl) (by decide) (by kernel_rfl) (by kernel_rfl) (
  TOk.cons (by kernel_rfl) (by decide) (by kernel_rfl) (by kernel_rfl) (
  TOk.cons (by kernel_rfl) (by decide) (by kernel_rfl) (by kernel_rfl) (
  TOk.cons (by kernel_rfl) (by decide) (by kernel_rfl) (by kernel_rfl) (
  TOk.cons (by kernel_rfl) (by decide) (by kernel_rfl) (by kernel_rfl) (
  TOk.cons (by kernel_rfl) (by decide) (by kernel_rfl) (by kernel_rfl) (
  TOk.cons (by kernel_rfl) (by decide) (by kernel_rfl) (by kernel_rfl) (
  TOk.cons (by kernel_rfl) (by decide) (by kernel_rfl) (by kernel_rfl) (
  TOk.cons (by kernel_rfl) (by decide) (by kernel_rfl) (by kernel_rfl) (
  TOk.cons (by kernel_rfl) (by decide) (by kernel_rfl) (by kernel_rfl) (
  TOk.cons (by kernel_rfl) (by decide) (by kernel_rfl) (by kernel_rfl) (
  TOk.cons (by kernel_rfl) (by decide) (by kernel_rfl) (by kernel_rfl) (
  TOk.cons (by kernel_rfl) (by decide) (by kernel_rfl) (by kernel_rfl) (
  TOk.cons (by kernel_rfl) (by decide) (by kernel_rfl) (by kernel_rfl) (
  TOk.cons (by kernel_rfl) (by decide) (by kernel_rfl) (by kernel_rfl) (
  TOk.cons (by kernel_rfl) (by decide) (by kernel_rfl) (by kernel_rfl) (
  TOk.cons (by kernel_rfl) (by decide) (by kernel_rfl) (by kernel_rfl) (
  TOk.cons (by kernel_rfl) (by decide) (by kernel_rfl) (by kernel_rfl) (
  TOk.cons (by kernel_rfl) (by decide) (by kernel_rfl) (by kernel_rfl) (
  TOk.cons (by kernel_rfl) (by decide) (by kernel_rfl) (by kernel_rfl) (
  TOk.cons (by kernel_rfl) (by decide) (by kernel_rfl) (by kernel_rfl) (
  TOk.cons (by kernel_rfl) (by decide) (by kernel_rfl) (by kernel_rfl) (
  TOk.cons (by kernel_rfl) (by decide) (by kernel_rfl) (by kernel_rfl) (
  TOk.cons (by kernel_rfl) (by decide) (by kernel_rfl) (by kernel_rfl) (
  TOk.cons (by kernel_rfl) (by decide) (by kernel_rfl) (by kernel_rfl) (
  TOk.cons (by kernel_rfl) (by decide) (by kernel_rfl) (by kernel_rfl) (
  TOk.cons (by kernel_rfl) (by decide) (by kernel_rfl) (by kernel_rfl) (
  TOk.cons (by kernel_rfl) (by decide) (by kernel_rfl) (by kernel_rfl) (
  TOk.cons (by kernel_rfl) (by decide) (by kernel_rfl) (by kernel_rfl) (
  TOk.cons (by kernel_rfl) (by decide) (by kernel_rfl) (by kernel_rfl) (
  TOk.cons (by kernel_rfl) (by decide) (by kernel_rfl) (by kernel_rfl) (
  TOk.cons (by kernel_rfl) (by decide) (by kernel_rfl) (by kernel_rfl) (
  TOk.cons (by kernel_rfl) (by decide) (by kernel_rfl) (by kernel_rfl) (
  TOk.cons (by kernel_rfl) (by decide) (by kernel_rfl) (by kernel_rfl) (
  TOk.cons (by kernel_rfl) (by decide) (by kernel_rfl) (by kernel_rfl) (
  TOk.cons (by kernel_rfl) (by decide) (by kernel_rfl) (by kernel_rfl) (
  TOk.cons (by kernel_rfl) (by decide) (by kernel_rfl) (by kernel_rfl) (
  TOk.cons (by kernel_rfl) (by decide) (by kernel_rfl) (by kernel_rfl) (
  TOk.cons (by kernel_rfl) (by decide) (by kernel_rfl) (by kernel_rfl) (
  TOk.cons (by kernel_rfl) (by decide) (by kernel_rfl) (by kernel_rfl) (
  TOk.cons (by kernel_rfl) (by decide) (by kernel_rfl) (by kernel_rfl) (
  TOk.cons (by kernel_rfl) (by decide) (by kernel_rfl) (by kernel_rfl) (
  TOk.cons (by kernel_rfl) (by decide) (by kernel_rfl) (by kernel_rfl) (
  TOk.cons (by kernel_rfl) (by decide) (by kernel_rfl) (by kernel_rfl) (
  TOk.cons (by kernel_rfl) (by decide) (by kernel_rfl) (by kernel_rfl) (
  TOk.cons (by kernel_rfl) (by decide) (by kernel_rfl) (by kernel_rfl) (
  TOk.cons (by kernel_rfl) (by decide) (by kernel_rfl) (by kernel_rfl) (
  TOk.cons (by kernel_rfl) (by decide) (by kernel_rfl) (by kernel_rfl) (
  TOk.cons (by kernel_rfl) (by decide) (by kernel_rfl) (by kernel_rfl) (
  TOk.cons (by kernel_rfl) (by decide) (by kernel_rfl) (by kernel_rfl) (
  TOk.cons (by kernel_rfl) (by decide) (by kernel_rfl) (by kernel_rfl) (
  TOk.cons (by kernel_rfl) (by decide) (by kernel_rfl) (by kernel_rfl) (
  TOk.cons (by kernel_rfl) (by decide) (by kernel_rfl) (by kernel_rfl) (
  TOk.cons (by kernel_rfl) (by decide) (by kernel_rfl) (by kernel_rfl) (
  TOk.cons (by kernel_rfl) (by decide) (by kernel_rfl) (by kernel_rfl) (
  TOk.cons (by kernel_rfl) (by decide) (by kernel_rfl) (by kernel_rfl) (
  TOk.cons (by kernel_rfl) (by decide) (by kernel_rfl) (by kernel_rfl) (
  TOk.cons (by kernel_rfl) (by decide) (by kernel_rfl) (by kernel_rfl) (
  TOk.cons (by kernel_rfl) (by decide) (by kernel_rfl) (by kernel_rfl) (
  TOk.cons (by kernel_rfl) (by decide) (by kernel_rfl) (by kernel_rfl) (
  TOk.cons (by kernel_rfl) (by decide) (by kernel_rfl) (by kernel_rfl) (
  TOk.cons (by kernel_rfl) (by decide) (by kernel_rfl) (by kernel_rfl) (
  TOk.cons (by kernel_rfl) (by decide) (by kernel_rfl) (by kernel_rfl) (
  TOk.cons (by kernel_rfl) (by decide) (by kernel_rfl) (by kernel_rfl) (
  TOk.cons (by kernel_rfl) (by decide) (by kernel_rfl) (by kernel_rfl) (
  TOk.cons (by kernel_rfl) (by decide) (by kernel_rfl) (by kernel_rfl) (
  TOk.cons (by kernel_rfl) (by decide) (by kernel_rfl) (by kernel_rfl) (
  TOk.cons (by kernel_rfl) (by decide) (by kernel_rfl) (by kernel_rfl) (
  TOk.cons (by kernel_rfl) (by decide) (by kernel_rfl) (by kernel_rfl) (
  TOk.cons (by kernel_rfl) (by decide) (by kernel_rfl) (by kernel_rfl) (
  TOk.cons (by kernel_rfl) (by decide) (by kernel_rfl) (by kernel_rfl) (
  TOk.cons (by kernel_rfl) (by decide) (by kernel_rfl) (by kernel_rfl) (
  TOk.cons (by kernel_rfl) (by decide) (by kernel_rfl) (by kernel_rfl) (
  TOk.cons (by kernel_rfl) (by decide) (by kernel_rfl) (by kernel_rfl) (
  TOk.cons (by kernel_rfl) (by decide) (by kernel_rfl) (by kernel_rfl) (
  TOk.cons (by kernel_rfl) (by decide) (by kernel_rfl) (by kernel_rfl) (
  TOk.cons (by kernel_rfl) (by decide) (by kernel_rfl) (by kernel_rfl) (
  TOk.cons (by kernel_rfl) (by decide) (by kernel_rfl) (by kernel_rfl) (
  TOk.cons (by kernel_rfl) (by decide) (by kernel_rfl) (by kernel_rfl) (
  TOk.cons (by kernel_rfl) (by decide) (by kernel_rfl) (by kernel_rfl) (
  TOk.cons (by kernel_rfl) (by decide) (by kernel_rfl) (by kernel_rfl) (
  TOk.cons (by kernel_rfl) (by decide) (by kernel_rfl) (by kernel_rfl) (
  TOk.cons (by kernel_rfl) (by decide) (by kernel_rfl) (by kernel_rfl) (
  TOk.cons (by kernel_rfl) (by decide) (by kernel_rfl) (by kernel_rfl) (
  TOk.cons (by kernel_rfl) (by decide) (by kernel_rfl) (by kernel_rfl) (
  TOk.cons (by kernel_rfl) (by decide) (by kernel_rfl) (by kernel_rfl) (
  TOk.cons (by kernel_rfl) (by decide) (by kernel_rfl) (by kernel_rfl) (
  TOk.cons (by kernel_rfl) (by decide) (by kernel_rfl) (by kernel_rfl) (
  TOk.cons (by kernel_rfl) (by decide) (by kernel_rfl) (by kernel_rfl) (
  TOk.cons (by kernel_rfl) (by decide) (by kernel_rfl) (by kernel_rfl) (
  TOk.cons (by kernel_rfl) (by decide) (by kernel_rfl) (by kernel_rfl) (
  TOk.cons (by kernel_rfl) (by decide) (by kernel_rfl) (by kernel_rfl) (
  TOk.cons (by kernel_rfl) (by decide) (by kernel_rfl) (by kernel_rfl) (
  TOk.cons (by kernel_rfl) (by decide) (by kernel_rfl) (by kernel_rfl) (
  TOk.cons (by kernel_rfl) (by decide) (by kernel_rfl) (by kernel_rfl) (
  TOk.cons (by kernel_rfl) (by decide) (by kernel_rfl) (by kernel_rfl) (
  TOk.cons (by kernel_rfl) (by decide) (by kernel_rfl) (by kernel_rfl) (
  TOk.cons (by kernel_rfl) (by decide) (by kernel_rfl) (by kernel_rfl) (
  TOk.cons (by kernel_rfl) (by decide) (by kernel_rfl) (by kernel_rfl) (
  TOk.cons (by kernel_rfl) (by decide) (by kernel_rfl) (by kernel_rfl) (
  TOk.cons (by kernel_rfl) (by decide) (by kernel_rfl) (by kernel_rfl) (
  TOk.cons (by kernel_rfl) (by decide) (by kernel_rfl) (by kernel_rfl) (
  TOk.cons (by kernel_rfl) (by decide) (by kernel_rfl) (by kernel_rfl) (
  TOk.cons (by kernel_rfl) (by decide) (by kernel_rfl) (by kernel_rfl) (
  TOk.nil)))))))))))))))))))))))))))))))))))))))))))))))))))))))))))))))))))))))))))))))))))))))))))))))))))))))))))))))))))))))))))))))))))))))))
theorem mixed : Try.prog.follows .mixedOrders = true := by kernel_rfl
end Go.Proofs.Ytbjfokijjefoeaa
