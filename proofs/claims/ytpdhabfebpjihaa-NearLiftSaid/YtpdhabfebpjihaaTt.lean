/- The types of this translation, as the evaluator wants them. -/
import Derived.Test.YtpdhabfebpjihaaEvP
import Derived.Test.YtpdhabfebpjihaaChecked
namespace Go.Proofs.Ytpdhabfebpjihaa
open Go Go.Ev Go.Proofs
def tt : List (Nat × TI) :=
 [(1, ⟨(TypeDesc.func #[] #[] Bool.false), 1, 8, Value.nilFunc, none⟩),
 (2, ⟨(TypeDesc.int IntKind.i64), 1, 8, (Value.int IntKind.i64 (0 : Int)), some (.int .i64)⟩),
 (3, ⟨(TypeDesc.int IntKind.i64), 1, 8, (Value.int IntKind.i64 (0 : Int)), some (.int .i64)⟩),
 (4, ⟨TypeDesc.bool, 1, 1, (Value.bool Bool.false), some .bool⟩),
 (5, ⟨(TypeDesc.int IntKind.u8), 1, 1, (Value.int IntKind.u8 (0 : Int)), some (.int .u8)⟩),
 (6, ⟨(TypeDesc.int IntKind.u8), 1, 1, (Value.int IntKind.u8 (0 : Int)), some (.int .u8)⟩),
 (7, ⟨(TypeDesc.struct #[(Field.mk "x" 2 0 Bool.false "" "runtime" 0), (Field.mk "y" 3 1 Bool.false "" "runtime" 8), (Field.mk "signed" 4 2 Bool.false "" "runtime" 16), (Field.mk "code" 6 3 Bool.false "" "runtime" 17)]), 4, 24, (Value.agg #[(Value.int IntKind.i64 (0 : Int)), (Value.int IntKind.i64 (0 : Int)), (Value.bool Bool.false), (Value.int IntKind.u8 (0 : Int))]), some (.prod (.int .i64) (.prod (.int .i64) (.prod .bool (.int .u8))))⟩),
 (8, ⟨(TypeDesc.struct #[(Field.mk "x" 2 0 Bool.false "" "runtime" 0), (Field.mk "y" 3 1 Bool.false "" "runtime" 8), (Field.mk "signed" 4 2 Bool.false "" "runtime" 16), (Field.mk "code" 6 3 Bool.false "" "runtime" 17)]), 4, 24, (Value.agg #[(Value.int IntKind.i64 (0 : Int)), (Value.int IntKind.i64 (0 : Int)), (Value.bool Bool.false), (Value.int IntKind.u8 (0 : Int))]), some (.prod (.int .i64) (.prod (.int .i64) (.prod .bool (.int .u8))))⟩),
 (9, ⟨TypeDesc.string, 1, 16, (Value.string (ByteArray.mk #[])), some .str⟩),
 (10, ⟨TypeDesc.string, 1, 16, (Value.string (ByteArray.mk #[])), some .str⟩),
 (11, ⟨TypeDesc.string, 1, 16, (Value.string (ByteArray.mk #[])), some .str⟩),
 (12, ⟨(TypeDesc.int IntKind.u64), 1, 8, (Value.int IntKind.u64 (0 : Int)), some (.int .u64)⟩),
 (15, ⟨(TypeDesc.pointer 109), 1, 8, (Value.pointer Option.none), none⟩),
 (16, ⟨(TypeDesc.pointer 112), 1, 8, (Value.pointer Option.none), none⟩),
 (17, ⟨(TypeDesc.pointer 122), 1, 8, (Value.pointer Option.none), none⟩),
 (21, ⟨(TypeDesc.int IntKind.i32), 1, 4, (Value.int IntKind.i32 (0 : Int)), some (.int .i32)⟩),
 (22, ⟨(TypeDesc.struct #[(Field.mk "X" 3 0 Bool.false "" "" 0), (Field.mk "Y" 3 1 Bool.false "" "" 8)]), 2, 16, (Value.agg #[(Value.int IntKind.i64 (0 : Int)), (Value.int IntKind.i64 (0 : Int))]), some (.prod (.int .i64) (.int .i64))⟩),
 (23, ⟨(TypeDesc.struct #[(Field.mk "X" 3 0 Bool.false "" "" 0), (Field.mk "Y" 3 1 Bool.false "" "" 8)]), 2, 16, (Value.agg #[(Value.int IntKind.i64 (0 : Int)), (Value.int IntKind.i64 (0 : Int))]), some (.prod (.int .i64) (.int .i64))⟩),
 (24, ⟨(TypeDesc.array 3 23), 6, 48, (Value.agg #[(Value.int IntKind.i64 (0 : Int)), (Value.int IntKind.i64 (0 : Int)), (Value.int IntKind.i64 (0 : Int)), (Value.int IntKind.i64 (0 : Int)), (Value.int IntKind.i64 (0 : Int)), (Value.int IntKind.i64 (0 : Int))]), some (.prod (.prod (.int .i64) (.int .i64)) (.prod (.prod (.int .i64) (.int .i64)) (.prod (.int .i64) (.int .i64))))⟩),
 (25, ⟨(TypeDesc.struct #[(Field.mk "N" 3 0 Bool.false "" "" 0), (Field.mk "D" 3 1 Bool.false "" "" 8)]), 2, 16, (Value.agg #[(Value.int IntKind.i64 (0 : Int)), (Value.int IntKind.i64 (0 : Int))]), some (.prod (.int .i64) (.int .i64))⟩),
 (26, ⟨(TypeDesc.struct #[(Field.mk "N" 3 0 Bool.false "" "" 0), (Field.mk "D" 3 1 Bool.false "" "" 8)]), 2, 16, (Value.agg #[(Value.int IntKind.i64 (0 : Int)), (Value.int IntKind.i64 (0 : Int))]), some (.prod (.int .i64) (.int .i64))⟩),
 (27, ⟨(TypeDesc.int IntKind.i64), 1, 8, (Value.int IntKind.i64 (0 : Int)), some (.int .i64)⟩),
 (29, ⟨(TypeDesc.func #[23, 24] #[23, 26, 27] Bool.false), 1, 8, Value.nilFunc, none⟩),
 (30, ⟨(TypeDesc.func #[] #[4] Bool.false), 1, 8, Value.nilFunc, none⟩),
 (31, ⟨(TypeDesc.func #[56] #[4] Bool.true), 1, 8, Value.nilFunc, none⟩),
 (32, ⟨(TypeDesc.func #[24] #[4] Bool.false), 1, 8, Value.nilFunc, none⟩),
 (33, ⟨(TypeDesc.func #[26, 26] #[3] Bool.false), 1, 8, Value.nilFunc, none⟩),
 (34, ⟨(TypeDesc.func #[23, 23] #[3] Bool.false), 1, 8, Value.nilFunc, none⟩),
 (36, ⟨(TypeDesc.func #[23, 24] #[3, 27] Bool.false), 1, 8, Value.nilFunc, none⟩),
 (37, ⟨(TypeDesc.func #[23, 23, 24] #[4] Bool.false), 1, 8, Value.nilFunc, none⟩),
 (39, ⟨(TypeDesc.func #[23, 23, 23] #[23, 3, 26, 27] Bool.false), 1, 8, Value.nilFunc, none⟩),
 (40, ⟨(TypeDesc.func #[23, 23, 23] #[4] Bool.false), 1, 8, Value.nilFunc, none⟩),
 (41, ⟨(TypeDesc.array 3 3), 3, 24, (Value.agg #[(Value.int IntKind.i64 (0 : Int)), (Value.int IntKind.i64 (0 : Int)), (Value.int IntKind.i64 (0 : Int))]), some (.prod (.int .i64) (.prod (.int .i64) (.int .i64)))⟩),
 (43, ⟨(TypeDesc.func #[23, 24] #[41, 3, 27] Bool.false), 1, 8, Value.nilFunc, none⟩),
 (44, ⟨(TypeDesc.func #[23, 24] #[4] Bool.false), 1, 8, Value.nilFunc, none⟩),
 (45, ⟨(TypeDesc.struct #[(Field.mk "X" 3 0 Bool.false "" "" 0), (Field.mk "Y" 3 1 Bool.false "" "" 8), (Field.mk "Z" 3 2 Bool.false "" "" 16)]), 3, 24, (Value.agg #[(Value.int IntKind.i64 (0 : Int)), (Value.int IntKind.i64 (0 : Int)), (Value.int IntKind.i64 (0 : Int))]), some (.prod (.int .i64) (.prod (.int .i64) (.int .i64)))⟩),
 (46, ⟨(TypeDesc.struct #[(Field.mk "X" 3 0 Bool.false "" "" 0), (Field.mk "Y" 3 1 Bool.false "" "" 8), (Field.mk "Z" 3 2 Bool.false "" "" 16)]), 3, 24, (Value.agg #[(Value.int IntKind.i64 (0 : Int)), (Value.int IntKind.i64 (0 : Int)), (Value.int IntKind.i64 (0 : Int))]), some (.prod (.int .i64) (.prod (.int .i64) (.int .i64)))⟩),
 (47, ⟨(TypeDesc.array 3 46), 9, 72, (Value.agg #[(Value.int IntKind.i64 (0 : Int)), (Value.int IntKind.i64 (0 : Int)), (Value.int IntKind.i64 (0 : Int)), (Value.int IntKind.i64 (0 : Int)), (Value.int IntKind.i64 (0 : Int)), (Value.int IntKind.i64 (0 : Int)), (Value.int IntKind.i64 (0 : Int)), (Value.int IntKind.i64 (0 : Int)), (Value.int IntKind.i64 (0 : Int))]), some (.prod (.prod (.int .i64) (.prod (.int .i64) (.int .i64))) (.prod (.prod (.int .i64) (.prod (.int .i64) (.int .i64))) (.prod (.int .i64) (.prod (.int .i64) (.int .i64)))))⟩),
 (49, ⟨(TypeDesc.func #[23, 24, 47] #[46, 27] Bool.false), 1, 8, Value.nilFunc, none⟩),
 (50, ⟨(TypeDesc.func #[23, 23, 23, 24, 47] #[4] Bool.false), 1, 8, Value.nilFunc, none⟩),
 (51, ⟨(TypeDesc.func #[23, 24, 47] #[4] Bool.false), 1, 8, Value.nilFunc, none⟩),
 (52, ⟨(TypeDesc.struct #[(Field.mk "at" 23 0 Bool.false "" "limewash/near" 0), (Field.mk "end" 3 2 Bool.false "" "limewash/near" 16), (Field.mk "dist" 26 3 Bool.false "" "limewash/near" 24)]), 5, 40, (Value.agg #[(Value.int IntKind.i64 (0 : Int)), (Value.int IntKind.i64 (0 : Int)), (Value.int IntKind.i64 (0 : Int)), (Value.int IntKind.i64 (0 : Int)), (Value.int IntKind.i64 (0 : Int))]), some (.prod (.prod (.int .i64) (.int .i64)) (.prod (.int .i64) (.prod (.int .i64) (.int .i64))))⟩),
 (53, ⟨(TypeDesc.struct #[(Field.mk "at" 23 0 Bool.false "" "limewash/near" 0), (Field.mk "end" 3 2 Bool.false "" "limewash/near" 16), (Field.mk "dist" 26 3 Bool.false "" "limewash/near" 24)]), 5, 40, (Value.agg #[(Value.int IntKind.i64 (0 : Int)), (Value.int IntKind.i64 (0 : Int)), (Value.int IntKind.i64 (0 : Int)), (Value.int IntKind.i64 (0 : Int)), (Value.int IntKind.i64 (0 : Int))]), some (.prod (.prod (.int .i64) (.int .i64)) (.prod (.int .i64) (.prod (.int .i64) (.int .i64))))⟩),
 (54, ⟨(TypeDesc.func #[23, 23, 23] #[53] Bool.false), 1, 8, Value.nilFunc, none⟩),
 (55, ⟨(TypeDesc.func #[53] #[] Bool.false), 1, 8, Value.nilFunc, none⟩),
 (56, ⟨(TypeDesc.slice 23), 1, 24, (Value.slice Option.none 0 0), some (.sl (.prod (.int .i64) (.int .i64)))⟩),
 (57, ⟨(TypeDesc.func #[3, 74] #[4] Bool.true), 1, 8, Value.nilFunc, none⟩),
 (58, ⟨(TypeDesc.func #[23, 23, 23] #[3, 27] Bool.false), 1, 8, Value.nilFunc, none⟩),
 (59, ⟨(TypeDesc.struct #[(Field.mk "N" 3 0 Bool.false "" "" 0), (Field.mk "D" 3 1 Bool.false "" "" 8)]), 2, 16, (Value.agg #[(Value.int IntKind.i64 (0 : Int)), (Value.int IntKind.i64 (0 : Int))]), some (.prod (.int .i64) (.int .i64))⟩),
 (60, ⟨(TypeDesc.func #[59] #[3] Bool.false), 1, 8, Value.nilFunc, none⟩),
 (61, ⟨(TypeDesc.func #[83] #[] Bool.false), 1, 8, Value.nilFunc, none⟩),
 (62, ⟨(TypeDesc.func #[83] #[] Bool.false), 1, 8, Value.nilFunc, none⟩),
 (63, ⟨(TypeDesc.func #[24] #[62] Bool.false), 1, 8, Value.nilFunc, none⟩),
 (64, ⟨(TypeDesc.func #[23] #[3] Bool.false), 1, 8, Value.nilFunc, none⟩),
 (65, ⟨(TypeDesc.func #[] #[23, 3, 26] Bool.false), 1, 8, Value.nilFunc, none⟩),
 (67, ⟨(TypeDesc.func #[23] #[4] Bool.false), 1, 8, Value.nilFunc, none⟩),
 (68, ⟨(TypeDesc.func #[3, 3] #[3] Bool.false), 1, 8, Value.nilFunc, none⟩),
 (69, ⟨(TypeDesc.func #[70] #[4] Bool.true), 1, 8, Value.nilFunc, none⟩),
 (70, ⟨(TypeDesc.slice 46), 1, 24, (Value.slice Option.none 0 0), some (.sl (.prod (.int .i64) (.prod (.int .i64) (.int .i64))))⟩),
 (71, ⟨(TypeDesc.func #[46] #[4] Bool.false), 1, 8, Value.nilFunc, none⟩),
 (72, ⟨(TypeDesc.func #[23, 23] #[23] Bool.false), 1, 8, Value.nilFunc, none⟩),
 (73, ⟨(TypeDesc.func #[23, 23, 3] #[53] Bool.false), 1, 8, Value.nilFunc, none⟩),
 (74, ⟨(TypeDesc.slice 3), 1, 24, (Value.slice Option.none 0 0), some (.sl (.int .i64))⟩),
 (75, ⟨(TypeDesc.array 3 23), 6, 48, (Value.agg #[(Value.int IntKind.i64 (0 : Int)), (Value.int IntKind.i64 (0 : Int)), (Value.int IntKind.i64 (0 : Int)), (Value.int IntKind.i64 (0 : Int)), (Value.int IntKind.i64 (0 : Int)), (Value.int IntKind.i64 (0 : Int))]), some (.prod (.prod (.int .i64) (.int .i64)) (.prod (.prod (.int .i64) (.int .i64)) (.prod (.int .i64) (.int .i64))))⟩),
 (76, ⟨(TypeDesc.func #[] #[3, 27] Bool.false), 1, 8, Value.nilFunc, none⟩),
 (77, ⟨(TypeDesc.struct #[(Field.mk "Hi" 3 0 Bool.false "" "" 0), (Field.mk "Lo" 3 1 Bool.false "" "" 8)]), 2, 16, (Value.agg #[(Value.int IntKind.i64 (0 : Int)), (Value.int IntKind.i64 (0 : Int))]), some (.prod (.int .i64) (.int .i64))⟩),
 (78, ⟨(TypeDesc.struct #[(Field.mk "Hi" 3 0 Bool.false "" "" 0), (Field.mk "Lo" 3 1 Bool.false "" "" 8)]), 2, 16, (Value.agg #[(Value.int IntKind.i64 (0 : Int)), (Value.int IntKind.i64 (0 : Int))]), some (.prod (.int .i64) (.int .i64))⟩),
 (80, ⟨(TypeDesc.func #[3, 3] #[78, 27] Bool.false), 1, 8, Value.nilFunc, none⟩),
 (81, ⟨(TypeDesc.func #[78, 78] #[3] Bool.false), 1, 8, Value.nilFunc, none⟩),
 (82, ⟨(TypeDesc.func #[74] #[3] Bool.true), 1, 8, Value.nilFunc, none⟩),
 (83, ⟨(TypeDesc.func #[64] #[4] Bool.false), 1, 8, Value.nilFunc, none⟩),
 (84, ⟨(TypeDesc.func #[23, 23] #[3, 27] Bool.false), 1, 8, Value.nilFunc, none⟩),
 (86, ⟨(TypeDesc.func #[3, 3] #[3, 3, 27] Bool.false), 1, 8, Value.nilFunc, none⟩),
 (87, ⟨(TypeDesc.func #[24, 3, 23] #[3] Bool.false), 1, 8, Value.nilFunc, none⟩),
 (88, ⟨(TypeDesc.func #[26] #[4] Bool.false), 1, 8, Value.nilFunc, none⟩),
 (89, ⟨(TypeDesc.struct #[(Field.mk "Below" 4 0 Bool.false "" "" 0), (Field.mk "D" 74 1 Bool.false "" "" 8)]), 2, 32, (Value.agg #[(Value.bool Bool.false), (Value.slice Option.none 0 0)]), some (.prod .bool (.sl (.int .i64)))⟩),
 (90, ⟨(TypeDesc.struct #[(Field.mk "Below" 4 0 Bool.false "" "" 0), (Field.mk "D" 74 1 Bool.false "" "" 8)]), 2, 32, (Value.agg #[(Value.bool Bool.false), (Value.slice Option.none 0 0)]), some (.prod .bool (.sl (.int .i64)))⟩),
 (91, ⟨(TypeDesc.func #[90, 90] #[90] Bool.false), 1, 8, Value.nilFunc, none⟩),
 (92, ⟨(TypeDesc.func #[3] #[90] Bool.false), 1, 8, Value.nilFunc, none⟩),
 (93, ⟨(TypeDesc.func #[90, 90] #[4] Bool.false), 1, 8, Value.nilFunc, none⟩),
 (94, ⟨(TypeDesc.array 2 3), 2, 16, (Value.agg #[(Value.int IntKind.i64 (0 : Int)), (Value.int IntKind.i64 (0 : Int))]), some (.prod (.int .i64) (.int .i64))⟩),
 (95, ⟨(TypeDesc.func #[3] #[94] Bool.false), 1, 8, Value.nilFunc, none⟩),
 (96, ⟨(TypeDesc.func #[78] #[78, 27] Bool.false), 1, 8, Value.nilFunc, none⟩),
 (97, ⟨(TypeDesc.func #[3] #[4] Bool.false), 1, 8, Value.nilFunc, none⟩),
 (98, ⟨(TypeDesc.func #[4, 74] #[90] Bool.false), 1, 8, Value.nilFunc, none⟩),
 (99, ⟨(TypeDesc.func #[90] #[90] Bool.false), 1, 8, Value.nilFunc, none⟩),
 (100, ⟨(TypeDesc.func #[3, 3] #[27] Bool.false), 1, 8, Value.nilFunc, none⟩),
 (101, ⟨(TypeDesc.func #[74] #[4] Bool.true), 1, 8, Value.nilFunc, none⟩),
 (102, ⟨(TypeDesc.func #[78] #[4] Bool.false), 1, 8, Value.nilFunc, none⟩),
 (103, ⟨(TypeDesc.func #[3] #[3] Bool.false), 1, 8, Value.nilFunc, none⟩),
 (104, ⟨(TypeDesc.func #[90, 90] #[74] Bool.false), 1, 8, Value.nilFunc, none⟩),
 (105, ⟨(TypeDesc.func #[90, 90] #[3] Bool.false), 1, 8, Value.nilFunc, none⟩),
 (106, ⟨(TypeDesc.func #[90, 3] #[3] Bool.false), 1, 8, Value.nilFunc, none⟩),
 (107, ⟨(TypeDesc.func #[] #[9] Bool.false), 1, 8, Value.nilFunc, none⟩),
 (113, ⟨(TypeDesc.func #[] #[3] Bool.false), 1, 8, Value.nilFunc, none⟩),
 (114, ⟨(TypeDesc.int IntKind.u32), 1, 4, (Value.int IntKind.u32 (0 : Int)), some (.int .u32)⟩),
 (115, ⟨(TypeDesc.int IntKind.u8), 1, 1, (Value.int IntKind.u8 (0 : Int)), some (.int .u8)⟩),
 (116, ⟨(TypeDesc.int IntKind.u8), 1, 1, (Value.int IntKind.u8 (0 : Int)), some (.int .u8)⟩),
 (117, ⟨(TypeDesc.func #[123, 123] #[4] Bool.false), 1, 8, Value.nilFunc, none⟩),
 (118, ⟨(TypeDesc.pointer 5), 1, 8, (Value.pointer Option.none), none⟩),
 (119, ⟨(TypeDesc.int IntKind.i32), 1, 4, (Value.int IntKind.i32 (0 : Int)), some (.int .i32)⟩),
 (120, ⟨(TypeDesc.int IntKind.i32), 1, 4, (Value.int IntKind.i32 (0 : Int)), some (.int .i32)⟩),
 (123, ⟨TypeDesc.unsafePointer, 1, 8, (Value.pointer Option.none), none⟩)]
set_option maxRecDepth 100000 in
theorem tt_ok : TOk Try.prog tt :=
  TOk.cons (by kernel_rfl) (by decide) (by kernel_rfl) (by kernel_rfl) (
  TOk.cons (by kernel_rfl) (by decide) (by kernel_rfl) (by kernel_rfl) (
  TOk.cons (by kernel_rfl) (by decide) (by kernel_rfl) (by kernel_rfl) (
  TOk.cons (by kernel_rfl) (by decide) (by kernel_rfl) (by kernel_rfl) (
  TOk.cons (by kernel_rfl) (by decide) (by kernel_rfl) (by kernel_rfl) (
  TOk.cons (by kernel_rfl) (by decide) (by kernel_rfl) (by kernel_rfl) (
  TOk.cons (by kernel_rfl) (by decide) (by kernel_rfl) (by kernel_rfl) (
  TOk.cons (by kernel_rfl) (by decide) (by kernel_rfl) (by kernel_rfl) (
  TOk.cons (by kernel_rfl) (by decide) (by kernel_rfl) (by kernel_rfl) (
  TOk.cons (by kernel_rfl) (by decide) (by kernel_rfl) (by kernel_rfl) (
  TOk.cons (by kernel_rfl) (by decide) (by kernel_rfl) (by kernel_rfl) (
  TOk.cons (by kernel_rfl) (by decide) (by kernel_rfl) (by kernel_rfl) (
  TOk.cons (by kernel_rfl) (by decide) (by kernel_rfl) (by kernel_rfl) (
  TOk.cons (by kernel_rfl) (by decide) (by kernel_rfl) (by kernel_rfl) (
  TOk.cons (by kernel_rfl) (by decide) (by kernel_rfl) (by kernel_rfl) (
  TOk.cons (by kernel_rfl) (by decide) (by kernel_rfl) (by kernel_rfl) (
  TOk.cons (by kernel_rfl) (by decide) (by kernel_rfl) (by kernel_rfl) (
  TOk.cons (by kernel_rfl) (by decide) (by kernel_rfl) (by kernel_rfl) (
  TOk.cons (by kernel_rfl) (by decide) (by kernel_rfl) (by kernel_rfl) (
  TOk.cons (by kernel_rfl) (by decide) (by kernel_rfl) (by kernel_rfl) (
  TOk.cons (by kernel_rfl) (by decide) (by kernel_rfl) (by kernel_rfl) (
  TOk.cons (by kernel_rfl) (by decide) (by kernel_rfl) (by kernel_rfl) (
  TOk.cons (by kernel_rfl) (by decide) (by kernel_rfl) (by kernel_rfl) (
  TOk.cons (by kernel_rfl) (by decide) (by kernel_rfl) (by kernel_rfl) (
  TOk.cons (by kernel_rfl) (by decide) (by kernel_rfl) (by kernel_rfl) (
  TOk.cons (by kernel_rfl) (by decide) (by kernel_rfl) (by kernel_rfl) (
  TOk.cons (by kernel_rfl) (by decide) (by kernel_rfl) (by kernel_rfl) (
  TOk.cons (by kernel_rfl) (by decide) (by kernel_rfl) (by kernel_rfl) (
  TOk.cons (by kernel_rfl) (by decide) (by kernel_rfl) (by kernel_rfl) (
  TOk.cons (by kernel_rfl) (by decide) (by kernel_rfl) (by kernel_rfl) (
  TOk.cons (by kernel_rfl) (by decide) (by kernel_rfl) (by kernel_rfl) (
  TOk.cons (by kernel_rfl) (by decide) (by kernel_rfl) (by kernel_rfl) (
  TOk.cons (by kernel_rfl) (by decide) (by kernel_rfl) (by kernel_rfl) (
  TOk.cons (by kernel_rfl) (by decide) (by kernel_rfl) (by kernel_rfl) (
  TOk.cons (by kernel_rfl) (by decide) (by kernel_rfl) (by kernel_rfl) (
  TOk.cons (by kernel_rfl) (by decide) (by kernel_rfl) (by kernel_rfl) (
  TOk.cons (by kernel_rfl) (by decide) (by kernel_rfl) (by kernel_rfl) (
  TOk.cons (by kernel_rfl) (by decide) (by kernel_rfl) (by kernel_rfl) (
  TOk.cons (by kernel_rfl) (by decide) (by kernel_rfl) (by kernel_rfl) (
  TOk.cons (by kernel_rfl) (by decide) (by kernel_rfl) (by kernel_rfl) (
  TOk.cons (by kernel_rfl) (by decide) (by kernel_rfl) (by kernel_rfl) (
  TOk.cons (by kernel_rfl) (by decide) (by kernel_rfl) (by kernel_rfl) (
  TOk.cons (by kernel_rfl) (by decide) (by kernel_rfl) (by kernel_rfl) (
  TOk.cons (by kernel_rfl) (by decide) (by kernel_rfl) (by kernel_rfl) (
  TOk.cons (by kernel_rfl) (by decide) (by kernel_rfl) (by kernel_rfl) (
  TOk.cons (by kernel_rfl) (by decide) (by kernel_rfl) (by kernel_rfl) (
  TOk.cons (by kernel_rfl) (by decide) (by kernel_rfl) (by kernel_rfl) (
  TOk.cons (by kernel_rfl) (by decide) (by kernel_rfl) (by kernel_rfl) (
  TOk.cons (by kernel_rfl) (by decide) (by kernel_rfl) (by kernel_rfl) (
  TOk.cons (by kernel_rfl) (by decide) (by kernel_rfl) (by kernel_rfl) (
  TOk.cons (by kernel_rfl) (by decide) (by kernel_rfl) (by kernel_rfl) (
  TOk.cons (by kernel_rfl) (by decide) (by kernel_rfl) (by kernel_rfl) (
  TOk.cons (by kernel_rfl) (by decide) (by kernel_rfl) (by kernel_rfl) (
  TOk.cons (by kernel_rfl) (by decide) (by kernel_rfl) (by kernel_rfl) (
  TOk.cons (by kernel_rfl) (by decide) (by kernel_rfl) (by kernel_rfl) (
  TOk.cons (by kernel_rfl) (by decide) (by kernel_rfl) (by kernel_rfl) (
  TOk.cons (by kernel_rfl) (by decide) (by kernel_rfl) (by kernel_rfl) (
  TOk.cons (by kernel_rfl) (by decide) (by kernel_rfl) (by kernel_rfl) (
  TOk.cons (by kernel_rfl) (by decide) (by kernel_rfl) (by kernel_rfl) (
  TOk.cons (by kernel_rfl) (by decide) (by kernel_rfl) (by kernel_rfl) (
  TOk.cons (by kernel_rfl) (by decide) (by kernel_rfl) (by kernel_rfl) (
  TOk.cons (by kernel_rfl) (by decide) (by kernel_rfl) (by kernel_rfl) (
  TOk.cons (by kernel_rfl) (by decide) (by kernel_rfl) (by kernel_rfl) (
  TOk.cons (by kernel_rfl) (by decide) (by kernel_rfl) (by kernel_rfl) (
  TOk.cons (by kernel_rfl) (by decide) (by kernel_rfl) (by kernel_rfl) (
  TOk.cons (by kernel_rfl) (by decide) (by kernel_rfl) (by kernel_rfl) (
  TOk.cons (by kernel_rfl) (by decide) (by kernel_rfl) (by kernel_rfl) (
  TOk.cons (by kernel_rfl) (by decide) (by kernel_rfl) (by kernel_rfl) (
  TOk.cons (by kernel_rfl) (by decide) (by kernel_rfl) (by kernel_rfl) (
  TOk.cons (by kernel_rfl) (by decide) (by kernel_rfl) (by kernel_rfl) (
  TOk.cons (by kernel_rfl) (by decide) (by kernel_rfl) (by kernel_rfl) (
  TOk.cons (by kernel_rfl) (by decide) (by kernel_rfl) (by kernel_rfl) (
  TOk.cons (by kernel_rfl) (by decide) (by kernel_rfl) (by kernel_rfl) (
  TOk.cons (by kernel_rfl) (by decide) (by kernel_rfl) (by kernel_rfl) (
  TOk.cons (by kernel_rfl) (by decide) (by kernel_rfl) (by kernel_rfl) (
  TOk.cons (by kernel_rfl) (by decide) (by kernel_rfl) (by kernel_rfl) (
  TOk.cons (by kernel_rfl) (by decide) (by kernel_rfl) (by kernel_rfl) (
  TOk.cons (by kernel_rfl) (by decide) (by kernel_rfl) (by kernel_rfl) (
  TOk.cons (by kernel_rfl) (by decide) (by kernel_rfl) (by kernel_rfl) (
  TOk.cons (by kernel_rfl) (by decide) (by kernel_rfl) (by kernel_rfl) (
  TOk.cons (by kernel_rfl) (by decide) (by kernel_rfl) (by kernel_rfl) (
  TOk.cons (by kernel_rfl) (by decide) (by kernel_rfl) (by kernel_rfl) (
  TOk.cons (by kernel_rfl) (by decide) (by kernel_rfl) (by kernel_rfl) (
  TOk.cons (by kernel_rfl) (by decide) (by kernel_rfl) (by kernel_rfl) (
  TOk.cons (by kernel_rfl) (by decide) (by kernel_rfl) (by kernel_rfl) (
  TOk.cons (by kernel_rfl) (by decide) (by kernel_rfl) (by kernel_rfl) (
  TOk.cons (by kernel_rfl) (by decide) (by kernel_rfl) (by kernel_rfl) (
  TOk.cons (by kernel_rfl) (by decide) (by kernel_rfl) (by kernel_rfl) (
  TOk.cons (by kernel_rfl) (by decide) (by kernel_rfl) (by kernel_rfl) (
  TOk.cons (by kernel_rfl) (by decide) (by kernel_rfl) (by kernel_rfl) (
  TOk.cons (by kernel_rfl) (by decide) (by kernel_rfl) (by kernel_rfl) (
  TOk.cons (by kernel_rfl) (by decide) (by kernel_rfl) (by kernel_rfl) (
  TOk.cons (by kernel_rfl) (by decide) (by kernel_rfl) (by kernel_rfl) (
  TOk.cons (by kernel_rfl) (by decide) (by kernel_rfl) (by kernel_rfl) (
  TOk.cons (by kernel_rfl) (by decide) (by kernel_rfl) (by kernel_rfl) (
  TOk.cons (by kernel_rfl) (by decide) (by kernel_rfl) (by kernel_rfl) (
  TOk.cons (by kernel_rfl) (by decide) (by kernel_rfl) (by kernel_rfl) (
  TOk.cons (by kernel_rfl) (by decide) (by kernel_rfl) (by kernel_rfl) (
  TOk.cons (by kernel_rfl) (by decide) (by kernel_rfl) (by kernel_rfl) (
  TOk.cons (by kernel_rfl) (by decide) (by kernel_rfl) (by kernel_rfl) (
  TOk.cons (by kernel_rfl) (by decide) (by kernel_rfl) (by kernel_rfl) (
  TOk.cons (by kernel_rfl) (by decide) (by kernel_rfl) (by kernel_rfl) (
  TOk.cons (by kernel_rfl) (by decide) (by kernel_rfl) (by kernel_rfl) (
  TOk.nil)))))))))))))))))))))))))))))))))))))))))))))))))))))))))))))))))))))))))))))))))))))))))))))))))))))))
theorem mixed : Try.prog.follows .mixedOrders = true := by kernel_rfl
end Go.Proofs.Ytpdhabfebpjihaa
