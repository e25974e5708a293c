/- The types of this translation, as the evaluator wants them. -/
import Derived.Test.YtbjfokijjefoeaaEvR
import Derived.Test.YtbjfokijjefoeaaChecked
namespace Go.Proofs.Ytbjfokijjefoeaa
open Go Go.Ev Go.Proofs
abbrev z0 : Int := 0
abbrev z1 : Int := 1
abbrev tN (i:Int) : Nat := Int.toNat i
abbrev gI (l : List Int) (i:Int) : Int := List.getD l (Int.toNat i) (0:Int)
abbrev gT {α : Type} (l : List α) (i:Int) (d : α) : α := List.getD l (Int.toNat i) d
abbrev nL {α : Type} (l : List α) : Int := ((List.length l:Nat):Int)
noncomputable abbrev w1 (i:Int) : Int := w64 (i + (1:Int))
noncomputable abbrev wm (i:Int) : Int := w64 (i - (1:Int))
def tt : List (Nat × TI) :=
 [(3,⟨(TypeDesc.int IntKind.i64),1,8,(Value.int IntKind.i64 (0:Int)),some (.int .i64)⟩),
 (4,⟨TypeDesc.bool,1,1,(Value.bool Bool.false),some .bool⟩),
 (5,⟨(TypeDesc.int IntKind.u8),1,1,(Value.int IntKind.u8 (0:Int)),some (.int .u8)⟩),
 (9,⟨TypeDesc.string,1,16,(Value.string (ByteArray.mk #[])),some .str⟩),
 (22,⟨(TypeDesc.slice 36),1,24,(Value.slice Option.none 0 0),some (.sl (.prod (.sl (.int .i64)) (.prod (.sl (.prod (.prod (.int .i64) (.int .i64)) (.prod (.prod (.int .i64) (.int .i64)) (.prod (.int .i64) (.int .i64))))) (.prod (.int .i64) (.int .i64)))))⟩),
 (24,⟨(TypeDesc.slice 41),1,24,(Value.slice Option.none 0 0),some (.sl (.prod (.int .i64) (.prod (.int .i64) (.prod (.int .i64) (.int .i64)))))⟩),
 (26, ⟨(TypeDesc.struct #[(Field.mk "W" 3 0 Bool.false "" "" 0), (Field.mk "H" 3 1 Bool.false "" "" 8), (Field.mk "Pad" 3 2 Bool.false "" "" 16), (Field.mk "Patches" 22 3 Bool.false "" "" 24), (Field.mk "Rects" 24 4 Bool.false "" "" 48)]), 5, 72, (Value.agg #[(Value.int IntKind.i64 (0 : Int)), (Value.int IntKind.i64 (0 : Int)), (Value.int IntKind.i64 (0 : Int)), (Value.slice Option.none 0 0), (Value.slice Option.none 0 0)]), some (.prod (.int .i64) (.prod (.int .i64) (.prod (.int .i64) (.prod (.sl (.prod (.sl (.int .i64)) (.prod (.sl (.prod (.prod (.int .i64) (.int .i64)) (.prod (.prod (.int .i64) (.int .i64)) (.prod (.int .i64) (.int .i64))))) (.prod (.int .i64) (.int .i64))))) (.sl (.prod (.int .i64) (.prod (.int .i64) (.prod (.int .i64) (.int .i64)))))))))⟩),
 (27,⟨(TypeDesc.int IntKind.i64),1,8,(Value.int IntKind.i64 (0:Int)),some (.int .i64)⟩),
 (33,⟨(TypeDesc.slice 3),1,24,(Value.slice Option.none 0 0),some (.sl (.int .i64))⟩),
 (34,⟨(TypeDesc.slice 44),1,24,(Value.slice Option.none 0 0),some (.sl (.prod (.prod (.int .i64) (.int .i64)) (.prod (.prod (.int .i64) (.int .i64)) (.prod (.int .i64) (.int .i64)))))⟩),
 (36, ⟨(TypeDesc.struct #[(Field.mk "Tris" 33 0 Bool.false "" "" 0), (Field.mk "UV" 34 1 Bool.false "" "" 24), (Field.mk "W" 3 2 Bool.false "" "" 48), (Field.mk "H" 3 3 Bool.false "" "" 56)]), 4, 64, (Value.agg #[(Value.slice Option.none 0 0), (Value.slice Option.none 0 0), (Value.int IntKind.i64 (0 : Int)), (Value.int IntKind.i64 (0 : Int))]), some (.prod (.sl (.int .i64)) (.prod (.sl (.prod (.prod (.int .i64) (.int .i64)) (.prod (.prod (.int .i64) (.int .i64)) (.prod (.int .i64) (.int .i64))))) (.prod (.int .i64) (.int .i64))))⟩),
 (41, ⟨(TypeDesc.struct #[(Field.mk "X" 3 0 Bool.false "" "" 0), (Field.mk "Y" 3 1 Bool.false "" "" 8), (Field.mk "W" 3 2 Bool.false "" "" 16), (Field.mk "H" 3 3 Bool.false "" "" 24)]), 4, 32, (Value.agg #[(Value.int IntKind.i64 (0 : Int)), (Value.int IntKind.i64 (0 : Int)), (Value.int IntKind.i64 (0 : Int)), (Value.int IntKind.i64 (0 : Int))]), some (.prod (.int .i64) (.prod (.int .i64) (.prod (.int .i64) (.int .i64))))⟩),
 (43, ⟨(TypeDesc.struct #[(Field.mk "X" 3 0 Bool.false "" "" 0), (Field.mk "Y" 3 1 Bool.false "" "" 8)]), 2, 16, (Value.agg #[(Value.int IntKind.i64 (0 : Int)), (Value.int IntKind.i64 (0 : Int))]), some (.prod (.int .i64) (.int .i64))⟩),
 (44,⟨(TypeDesc.array 3 43),6,48,(Value.agg #[(Value.int IntKind.i64 (0:Int)),(Value.int IntKind.i64 (0:Int)),(Value.int IntKind.i64 (0:Int)),(Value.int IntKind.i64 (0:Int)),(Value.int IntKind.i64 (0:Int)),(Value.int IntKind.i64 (0:Int))]),some (.prod (.prod (.int .i64) (.int .i64)) (.prod (.prod (.int .i64) (.int .i64)) (.prod (.int .i64) (.int .i64))))⟩),
 (47,⟨(TypeDesc.slice 4),1,24,(Value.slice Option.none 0 0),some (.sl .bool)⟩),
 (50,⟨(TypeDesc.slice 36),1,24,(Value.slice Option.none 0 0),some (.sl (.prod (.sl (.int .i64)) (.prod (.sl (.prod (.prod (.int .i64) (.int .i64)) (.prod (.prod (.int .i64) (.int .i64)) (.prod (.int .i64) (.int .i64))))) (.prod (.int .i64) (.int .i64)))))⟩),
 (51,⟨(TypeDesc.slice 43),1,24,(Value.slice Option.none 0 0),some (.sl (.prod (.int .i64) (.int .i64)))⟩),
 (53, ⟨(TypeDesc.struct #[(Field.mk "Patch" 36 0 Bool.true "" "" 0), (Field.mk "pad" 3 4 Bool.false "" "limewash/atlas" 64)]), 5, 72, (Value.agg #[(Value.slice Option.none 0 0), (Value.slice Option.none 0 0), (Value.int IntKind.i64 (0 : Int)), (Value.int IntKind.i64 (0 : Int)), (Value.int IntKind.i64 (0 : Int))]), some (.prod (.prod (.sl (.int .i64)) (.prod (.sl (.prod (.prod (.int .i64) (.int .i64)) (.prod (.prod (.int .i64) (.int .i64)) (.prod (.int .i64) (.int .i64))))) (.prod (.int .i64) (.int .i64)))) (.int .i64))⟩),
 (68,⟨(TypeDesc.func #[3,3] #[3] Bool.false),1,8,Value.nilFunc,none⟩),
 (69,⟨(TypeDesc.map 3 4),1,8,(Value.map Option.none),none⟩),
 (71,⟨(TypeDesc.func #[43] #[4] Bool.false),1,8,Value.nilFunc,none⟩),
 (73,⟨(TypeDesc.slice 3),1,24,(Value.slice Option.none 0 0),some (.sl (.int .i64))⟩),
 (82,⟨(TypeDesc.func #[41] #[4] Bool.false),1,8,Value.nilFunc,none⟩),
 (84,⟨(TypeDesc.func #[43] #[43] Bool.false),1,8,Value.nilFunc,none⟩),
 (85,⟨(TypeDesc.int IntKind.u64),1,8,(Value.int IntKind.u64 (0:Int)),some (.int .u64)⟩),
 (91,⟨(TypeDesc.func #[44] #[4] Bool.false),1,8,Value.nilFunc,none⟩),
 (102,⟨(TypeDesc.int IntKind.u32),1,4,(Value.int IntKind.u32 (0:Int)),some (.int .u32)⟩),
 (105,⟨(TypeDesc.int IntKind.u64),1,8,(Value.int IntKind.u64 (0:Int)),some (.int .u64)⟩),
 (109,⟨(TypeDesc.int IntKind.i64),1,8,(Value.int IntKind.i64 (0:Int)),some (.int .i64)⟩),
 (123,⟨(TypeDesc.func #[71] #[] Bool.false),1,8,Value.nilFunc,none⟩),
 (129,⟨(TypeDesc.int IntKind.u64),1,8,(Value.int IntKind.u64 (0:Int)),some (.int .u64)⟩),
 (133,⟨(TypeDesc.pointer 3),1,8,(Value.pointer Option.none),none⟩),
 (135,⟨(TypeDesc.array 3 43),6,48,(Value.agg #[(Value.int IntKind.i64 (0:Int)),(Value.int IntKind.i64 (0:Int)),(Value.int IntKind.i64 (0:Int)),(Value.int IntKind.i64 (0:Int)),(Value.int IntKind.i64 (0:Int)),(Value.int IntKind.i64 (0:Int))]),some (.prod (.prod (.int .i64) (.int .i64)) (.prod (.prod (.int .i64) (.int .i64)) (.prod (.int .i64) (.int .i64))))⟩),
 (139,⟨(TypeDesc.pointer 129),1,8,(Value.pointer Option.none),none⟩),
 (145,⟨(TypeDesc.func #[148] #[] Bool.false),1,8,Value.nilFunc,none⟩),
 (147,⟨(TypeDesc.func #[43] #[3] Bool.false),1,8,Value.nilFunc,none⟩),
 (148,⟨(TypeDesc.func #[147] #[4] Bool.false),1,8,Value.nilFunc,none⟩)]
set_option maxRecDepth 100000 in
theorem tt_ok : TOk Try.prog tt :=
 TOk.cons (by kernel_rfl) (by decide) (by kernel_rfl) (by kernel_rfl) (
 TOk.cons (by kernel_rfl) (by decide) (by kernel_rfl) (by kernel_rfl) (
 TOk.cons (by kernel_rfl) (by decide) (by kernel_rfl) (by kernel_rfl) (
 TOk.cons (by kernel_rfl) (by decide) (by kernel_rfl) (by kernel_rfl) (
 TOk.cons (by kernel_rfl) (by decide) (by kernel_rfl) (by kernel_rfl) (
 TOk.cons (by kernel_rfl) (by decide) (by kernel_rfl) (by kernel_rfl) (
 TOk.cons (by kernel_rfl) (by decide) (by kernel_rfl) (by kernel_rfl) (
 TOk.cons (by kernel_rfl) (by decide) (by kernel_rfl) (by kernel_rfl) (
 TOk.cons (by kernel_rfl) (by decide) (by kernel_rfl) (by kernel_rfl) (
 TOk.cons (by kernel_rfl) (by decide) (by kernel_rfl) (by kernel_rfl) (
 TOk.cons (by kernel_rfl) (by decide) (by kernel_rfl) (by kernel_rfl) (
 TOk.cons (by kernel_rfl) (by decide) (by kernel_rfl) (by kernel_rfl) (
 TOk.cons (by kernel_rfl) (by decide) (by kernel_rfl) (by kernel_rfl) (
 TOk.cons (by kernel_rfl) (by decide) (by kernel_rfl) (by kernel_rfl) (
 TOk.cons (by kernel_rfl) (by decide) (by kernel_rfl) (by kernel_rfl) (
 TOk.cons (by kernel_rfl) (by decide) (by kernel_rfl) (by kernel_rfl) (
 TOk.cons (by kernel_rfl) (by decide) (by kernel_rfl) (by kernel_rfl) (
 TOk.cons (by kernel_rfl) (by decide) (by kernel_rfl) (by kernel_rfl) (
 TOk.cons (by kernel_rfl) (by decide) (by kernel_rfl) (by kernel_rfl) (
 TOk.cons (by kernel_rfl) (by decide) (by kernel_rfl) (by kernel_rfl) (
 TOk.cons (by kernel_rfl) (by decide) (by kernel_rfl) (by kernel_rfl) (
 TOk.cons (by kernel_rfl) (by decide) (by kernel_rfl) (by kernel_rfl) (
 TOk.cons (by kernel_rfl) (by decide) (by kernel_rfl) (by kernel_rfl) (
 TOk.cons (by kernel_rfl) (by decide) (by kernel_rfl) (by kernel_rfl) (
 TOk.cons (by kernel_rfl) (by decide) (by kernel_rfl) (by kernel_rfl) (
 TOk.cons (by kernel_rfl) (by decide) (by kernel_rfl) (by kernel_rfl) (
 TOk.cons (by kernel_rfl) (by decide) (by kernel_rfl) (by kernel_rfl) (
 TOk.cons (by kernel_rfl) (by decide) (by kernel_rfl) (by kernel_rfl) (
 TOk.cons (by kernel_rfl) (by decide) (by kernel_rfl) (by kernel_rfl) (
 TOk.cons (by kernel_rfl) (by decide) (by kernel_rfl) (by kernel_rfl) (
 TOk.cons (by kernel_rfl) (by decide) (by kernel_rfl) (by kernel_rfl) (
 TOk.cons (by kernel_rfl) (by decide) (by kernel_rfl) (by kernel_rfl) (
 TOk.cons (by kernel_rfl) (by decide) (by kernel_rfl) (by kernel_rfl) (
 TOk.cons (by kernel_rfl) (by decide) (by kernel_rfl) (by kernel_rfl) (
 TOk.cons (by kernel_rfl) (by decide) (by kernel_rfl) (by kernel_rfl) (
 TOk.cons (by kernel_rfl) (by decide) (by kernel_rfl) (by kernel_rfl) (
 TOk.cons (by kernel_rfl) (by decide) (by kernel_rfl) (by kernel_rfl) (
 TOk.nil)))))))))))))))))))))))))))))))))))))
theorem mixed : Try.prog.follows .mixedOrders = true := by kernel_rfl
end Go.Proofs.Ytbjfokijjefoeaa
