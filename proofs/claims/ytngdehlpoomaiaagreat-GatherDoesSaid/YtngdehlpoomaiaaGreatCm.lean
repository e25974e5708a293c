/- The types of this translation, as the evaluator wants them. -/
import Derived.Test.YtngdehlpoomaiaaGreatEvR
import Derived.Test.YtngdehlpoomaiaaGreatChecked
import Derived.Test.YtngdehlpoomaiaaGreatEvT
noncomputable section
set_option linter.unusedSectionVars false
set_option linter.unusedVariables false
set_option linter.unusedSimpArgs false
namespace Go.Ev
theorem di.all {P:Program} : ∀ {l:List (Nat×TI)},(l.map fun p=>(P.underlying p.1,(P.info? p.1).map fun q=>(q.size,q.bytes,q.zero)))=(l.map fun p=>(some p.2.desc,some (p.2.size,p.2.bytes,some p.2.zero)))->(l.all fun p=>decide (0<p.2.size)&&(!dx p.2.desc||(!P.stoodInHeld p.1&& !P.eqGuardType P.depth p.1)))=true->di P l
 | [],_,_=>di.nil
 |p::r,h,k=>by
  simp only [List.map_cons,List.cons.injEq,Prod.mk.injEq] at h
  have k2:=Bool.and_eq_true_iff.1 k
  have k1:=Bool.and_eq_true_iff.1 k2.1
  exact di.cons h.1.1 (of_decide_eq_true k1.1) h.1.2 k1.2 (di.all h.2 k2.2)
end Go.Ev
namespace Go.Proofs.YtngdehlpoomaiaaGreat
open Go Go.Ev Go.Proofs
abbrev z0:Int:=0
abbrev z1:Int:=1
abbrev tN (i:Int):Nat:=Int.toNat i
abbrev gI (l:List Int) (i:Int):Int:=List.getD l i.toNat (0:Int)
abbrev gT {α:Type} (l:List α) (i:Int) (d:α):α:=List.getD l i.toNat d
abbrev nL {α:Type} (l:List α):Int:=((List.length l:Nat):Int)
abbrev _root_.Go.Ev.Tr.oI1 {τ α:Type} {i:Bool} (j:Int) (l:List α) (t:Tr τ i):Tr τ true:= .oR j ((List.length l:Nat):Int) (.od (Int.toNat j<List.length l) t)
abbrev _root_.Go.Ev.Tr.A7 {τ α:Type} {i:Bool} (j:Int) (l:List α) (t:Tr τ i):Tr τ true:= .oR j ((List.length l:Nat):Int) (.od (Int.toNat j<List.length l) (.od (Int.toNat j<List.length l) t))
abbrev _root_.Go.Ev.Tr.oI3 {τ α:Type} {i:Bool} (j:Int) (l:List α) (t:Tr τ i):Tr τ true:= .oR j ((List.length l:Nat):Int) (.od (Int.toNat j<List.length l) (.od (Int.toNat j<List.length l) (.od (Int.toNat j<List.length l) t)))
abbrev w1 (i:Int):Int:=au (i+(1:Int))
abbrev wm (i:Int):Int:=au (i- (1:Int))
abbrev zI:Value:=Value.int IntKind.i64 0
def tt:List (Nat×TI):=
 [(1,⟨(TypeDesc.func #[] #[] Bool.false),1,8,Value.nilFunc,none⟩),
 (2,⟨(TypeDesc.int IntKind.i64),1,8,zI,some yi⟩),
 (3,⟨(TypeDesc.int IntKind.i64),1,8,zI,some yi⟩),
 (4,⟨TypeDesc.bool,1,1,(Value.bool Bool.false),some .bool⟩),
 (5,⟨(TypeDesc.int IntKind.u8),1,1,(Value.int IntKind.u8 (0:Int)),some (.int .u8)⟩),
 (6,⟨(TypeDesc.int IntKind.u8),1,1,(Value.int IntKind.u8 (0:Int)),some (.int .u8)⟩),
 (7,⟨(TypeDesc.struct #[(Field.mk "x" 2 0 Bool.false "" "runtime" 0),(Field.mk "y" 3 1 Bool.false "" "runtime" 8),(Field.mk "signed" 4 2 Bool.false "" "runtime" 16),(Field.mk "code" 6 3 Bool.false "" "runtime" 17)]),4,24,(Value.agg #[zI,zI,(Value.bool Bool.false),(Value.int IntKind.u8 (0:Int))]),some (.prod yi (.prod yi (.prod .bool (.int .u8))))⟩),
 (8,⟨(TypeDesc.struct #[(Field.mk "x" 2 0 Bool.false "" "runtime" 0),(Field.mk "y" 3 1 Bool.false "" "runtime" 8),(Field.mk "signed" 4 2 Bool.false "" "runtime" 16),(Field.mk "code" 6 3 Bool.false "" "runtime" 17)]),4,24,(Value.agg #[zI,zI,(Value.bool Bool.false),(Value.int IntKind.u8 (0:Int))]),some (.prod yi (.prod yi (.prod .bool (.int .u8))))⟩),
 (9,⟨TypeDesc.string,1,16,(Value.string (ByteArray.mk #[])),some .str⟩),
 (10,⟨TypeDesc.string,1,16,(Value.string (ByteArray.mk #[])),some .str⟩),
 (12,⟨(TypeDesc.int IntKind.u64),1,8,(Value.int IntKind.u64 (0:Int)),some (.int .u64)⟩),
 (16,⟨(TypeDesc.pointer 292),1,8,(Value.pointer Option.none),none⟩),
 (21,⟨(TypeDesc.int IntKind.i32),1,4,(Value.int IntKind.i32 (0:Int)),some (.int .i32)⟩),
 (22,⟨(TypeDesc.slice 44),1,24,(Value.slice Option.none 0 0),some (.sl cO)⟩),
 (23,⟨(TypeDesc.slice 41),1,24,(Value.slice Option.none 0 0),some (.sl (.prod yi (.prod aG (.prod aG dh))))⟩),
 (25,⟨(TypeDesc.struct #[(Field.mk "Samples" 3 0 false "" "" 0),(Field.mk "Length" 3 1 false "" "" 8),(Field.mk "Bias" 3 2 false "" "" 16),(Field.mk "Ambient" 3 3 false "" "" 24),(Field.mk "Lights" 23 4 false "" "" 32)]),5,56,(Value.agg #[zI,zI,zI,zI,(Value.slice Option.none 0 0)]),some (.prod yi (.prod yi (.prod yi (.prod yi (.sl (.prod yi (.prod aG (.prod aG dh))))))))⟩),
 (27,⟨(TypeDesc.struct #[(Field.mk "X" 3 0 false "" "" 0),(Field.mk "Y" 3 1 false "" "" 8),(Field.mk "Z" 3 2 false "" "" 16)]),3,24,(Value.agg #[zI,zI,zI]),some aG⟩),
 (29,⟨(TypeDesc.pointer 80),1,8,(Value.pointer Option.none),none⟩),
 (30,⟨(TypeDesc.int IntKind.i64),1,8,zI,some yi⟩),
 (32,⟨(TypeDesc.func #[22] #[29,30] Bool.false),1,8,Value.nilFunc,none⟩),
 (38,⟨(TypeDesc.slice 3),1,24,(Value.slice Option.none 0 0),some (.sl yi)⟩),
 (40,⟨(TypeDesc.struct #[(Field.mk "Kind" 3 0 false "" "" 0),(Field.mk "At" 27 1 false "" "" 8),(Field.mk "Dir" 27 4 false "" "" 32),(Field.mk "Power" 3 7 false "" "" 56),(Field.mk "Cone" 3 8 false "" "" 64)]),9,72,(Value.agg #[zI,zI,zI,zI,zI,zI,zI,zI,zI]),some (.prod yi (.prod aG (.prod aG dh)))⟩),
 (41,⟨(TypeDesc.struct #[(Field.mk "Kind" 3 0 false "" "" 0),(Field.mk "At" 27 1 false "" "" 8),(Field.mk "Dir" 27 4 false "" "" 32),(Field.mk "Power" 3 7 false "" "" 56),(Field.mk "Cone" 3 8 false "" "" 64)]),9,72,(Value.agg #[zI,zI,zI,zI,zI,zI,zI,zI,zI]),some (.prod yi (.prod aG (.prod aG dh)))⟩),
 (42,⟨(TypeDesc.func #[38] #[3] Bool.false),1,8,Value.nilFunc,none⟩),
 (44,⟨(TypeDesc.array 3 27),9,72,(Value.agg #[zI,zI,zI,zI,zI,zI,zI,zI,zI]),some cO⟩),
 (46,⟨(TypeDesc.slice 27),1,24,(Value.slice Option.none 0 0),some (.sl aG)⟩),
 (50,⟨(TypeDesc.slice 97),1,24,(Value.slice Option.none 0 0),some (.sl (.prod yi (.prod yi (.prod yi aG))))⟩),
 (60,⟨(TypeDesc.func #[44] #[4] Bool.false),1,8,Value.nilFunc,none⟩),
 (66,⟨(TypeDesc.int IntKind.u32),1,4,(Value.int IntKind.u32 (0:Int)),some (.int .u32)⟩),
 (68,⟨(TypeDesc.struct #[(Field.mk "_" 65 0 Bool.false "" "sync/atomic" 0),(Field.mk "v" 66 0 Bool.false "" "sync/atomic" 0)]),1,4,(Value.agg #[(Value.int IntKind.u32 (0:Int))]),none⟩),
 (70,⟨(TypeDesc.struct #[(Field.mk "state" 21 0 Bool.false "" "internal/sync" 0),(Field.mk "sema" 66 1 Bool.false "" "internal/sync" 4)]),2,8,(Value.agg #[(Value.int IntKind.i32 (0:Int)),(Value.int IntKind.u32 (0:Int))]),some (.prod (.int .i32) (.int .u32))⟩),
 (72,⟨(TypeDesc.struct #[(Field.mk "_" 64 0 Bool.false "" "sync" 0),(Field.mk "mu" 70 0 Bool.false "" "sync" 0)]),2,8,(Value.agg #[(Value.int IntKind.i32 (0:Int)),(Value.int IntKind.u32 (0:Int))]),none⟩),
 (74,⟨(TypeDesc.struct #[(Field.mk "_" 64 0 Bool.false "" "sync" 0),(Field.mk "done" 68 0 Bool.false "" "sync" 0),(Field.mk "m" 72 1 Bool.false "" "sync" 4)]),3,12,(Value.agg #[(Value.int IntKind.u32 (0:Int)),(Value.int IntKind.i32 (0:Int)),(Value.int IntKind.u32 (0:Int))]),none⟩),
 (75,⟨(TypeDesc.slice 196),1,24,(Value.slice Option.none 0 0),some (.sl (.prod (.prod aG aG) (.prod yi (.prod yi (.sl yi)))))⟩),
 (78,⟨(TypeDesc.struct #[(Field.mk "_" 65 0 Bool.false "" "sync/atomic" 0),(Field.mk "_" 76 0 Bool.false "" "sync/atomic" 0),(Field.mk "v" 2 0 Bool.false "" "sync/atomic" 0)]),1,8,(Value.agg #[zI]),none⟩),
 (80,⟨(TypeDesc.struct #[(Field.mk "l" 22 0 Bool.false "" "limewash/ray" 0),(Field.mk "grown" 74 1 Bool.false "" "limewash/ray" 24),(Field.mk "t" 75 4 Bool.false "" "limewash/ray" 40),(Field.mk "ways" 78 5 Bool.false "" "limewash/ray" 64),(Field.mk "seen" 78 6 Bool.false "" "limewash/ray" 72)]),7,80,(Value.agg #[(Value.slice Option.none 0 0),(Value.int IntKind.u32 (0:Int)),(Value.int IntKind.i32 (0:Int)),(Value.int IntKind.u32 (0:Int)),(Value.slice Option.none 0 0),zI,zI]),none⟩),
 (82,⟨(TypeDesc.pointer 30),1,8,(Value.pointer Option.none),none⟩),
 (84,⟨(TypeDesc.struct #[(Field.mk "Job" 25 0 Bool.true "" "" 0),(Field.mk "at" 27 5 Bool.false "" "limewash/gather" 56),(Field.mk "n" 27 8 Bool.false "" "limewash/gather" 80)]),11,104,(Value.agg #[zI,zI,zI,zI,(Value.slice Option.none 0 0),zI,zI,zI,zI,zI,zI]),some (.prod (.prod yi (.prod yi (.prod yi (.prod yi (.sl (.prod yi (.prod aG (.prod aG dh)))))))) (.prod aG aG))⟩),
 (87,⟨(TypeDesc.struct #[(Field.mk "Caster" 29 0 Bool.true "" "" 0),(Field.mk "spot" 84 1 Bool.true "" "limewash/gather" 8)]),12,112,(Value.agg #[(Value.pointer Option.none),zI,zI,zI,zI,(Value.slice Option.none 0 0),zI,zI,zI,zI,zI,zI]),none⟩),
 (97,⟨(TypeDesc.struct #[(Field.mk "X" 3 0 false "" "" 0),(Field.mk "Y" 3 1 false "" "" 8),(Field.mk "Tri" 3 2 false "" "" 16),(Field.mk "At" 27 3 false "" "" 24)]),6,48,(Value.agg #[zI,zI,zI,zI,zI,zI]),some (.prod yi (.prod yi (.prod yi aG)))⟩),
 (98,⟨(TypeDesc.func #[44] #[27] Bool.false),1,8,Value.nilFunc,none⟩),
 (99,⟨(TypeDesc.func #[3] #[4] Bool.false),1,8,Value.nilFunc,none⟩),
 (100,⟨(TypeDesc.func #[27,27,3] #[27] Bool.false),1,8,Value.nilFunc,none⟩),
 (101,⟨(TypeDesc.slice 106),1,24,(Value.slice Option.none 0 0),some (.sl dh)⟩),
 (103,⟨(TypeDesc.func #[3] #[101,30] Bool.false),1,8,Value.nilFunc,none⟩),
 (104,⟨(TypeDesc.func #[27,106] #[27,30] Bool.false),1,8,Value.nilFunc,none⟩),
 (105,⟨(TypeDesc.struct #[(Field.mk "X" 3 0 false "" "" 0),(Field.mk "Y" 3 1 false "" "" 8)]),2,16,(Value.agg #[zI,zI]),some dh⟩),
 (106,⟨(TypeDesc.struct #[(Field.mk "X" 3 0 false "" "" 0),(Field.mk "Y" 3 1 false "" "" 8)]),2,16,(Value.agg #[zI,zI]),some dh⟩),
 (108,⟨(TypeDesc.func #[3,3] #[4] Bool.false),1,8,Value.nilFunc,none⟩),
 (110,⟨(TypeDesc.func #[23] #[4] Bool.false),1,8,Value.nilFunc,none⟩),
 (111,⟨(TypeDesc.func #[22,27,27] #[4] Bool.false),1,8,Value.nilFunc,none⟩),
 (115,⟨(TypeDesc.func #[27] #[4] Bool.false),1,8,Value.nilFunc,none⟩),
 (116,⟨(TypeDesc.func #[41] #[] Bool.false),1,8,Value.nilFunc,none⟩),
 (117,⟨(TypeDesc.func #[41] #[4] Bool.false),1,8,Value.nilFunc,none⟩),
 (118,⟨(TypeDesc.func #[121] #[27,27,30] Bool.false),1,8,Value.nilFunc,none⟩),
 (119,⟨(TypeDesc.func #[] #[27,27,30] Bool.false),1,8,Value.nilFunc,none⟩),
 (120,⟨(TypeDesc.struct #[(Field.mk "Light" 41 0 Bool.true "" "" 0),(Field.mk "p" 27 9 Bool.false "" "limewash/light" 72)]),12,96,(Value.agg #[zI,zI,zI,zI,zI,zI,zI,zI,zI,zI,zI,zI]),some (.prod (.prod yi (.prod aG (.prod aG dh))) aG)⟩),
 (121,⟨(TypeDesc.struct #[(Field.mk "Light" 41 0 Bool.true "" "" 0),(Field.mk "p" 27 9 Bool.false "" "limewash/light" 72)]),12,96,(Value.agg #[zI,zI,zI,zI,zI,zI,zI,zI,zI,zI,zI,zI]),some (.prod (.prod yi (.prod aG (.prod aG dh))) aG)⟩),
 (122,⟨(TypeDesc.array 4 118),4,32,(Value.agg #[Value.nilFunc,Value.nilFunc,Value.nilFunc,Value.nilFunc]),none⟩),
 (124,⟨(TypeDesc.array 3 3),3,24,(Value.agg #[zI,zI,zI]),some aG⟩),
 (125,⟨(TypeDesc.array 3 3),3,24,(Value.agg #[zI,zI,zI]),some aG⟩),
 (128,⟨(TypeDesc.func #[3,3] #[3] Bool.false),1,8,Value.nilFunc,none⟩),
 (129,⟨(TypeDesc.func #[3] #[3] Bool.false),1,8,Value.nilFunc,none⟩),
 (147,⟨(TypeDesc.struct #[(Field.mk "sought" 74 0 Bool.false "" "limewash/halton" 0),(Field.mk "l" 101 3 Bool.false "" "limewash/halton" 16)]),4,40,(Value.agg #[(Value.int IntKind.u32 (0:Int)),(Value.int IntKind.i32 (0:Int)),(Value.int IntKind.u32 (0:Int)),(Value.slice Option.none 0 0)]),none⟩),
 (150,⟨(TypeDesc.struct #[(Field.mk "t" 27 0 Bool.false "" "limewash/frame" 0),(Field.mk "b" 27 3 Bool.false "" "limewash/frame" 24)]),6,48,(Value.agg #[zI,zI,zI,zI,zI,zI]),some (.prod aG aG)⟩),
 (152,⟨(TypeDesc.struct #[(Field.mk "cross" 150 0 Bool.true "" "limewash/frame" 0),(Field.mk "u" 27 6 Bool.false "" "limewash/frame" 48)]),9,72,(Value.agg #[zI,zI,zI,zI,zI,zI,zI,zI,zI]),some (.prod (.prod aG aG) aG)⟩),
 (156,⟨(TypeDesc.array 3 27),9,72,(Value.agg #[zI,zI,zI,zI,zI,zI,zI,zI,zI]),some cO⟩),
 (159,⟨(TypeDesc.struct #[(Field.mk "N" 3 0 false "" "" 0),(Field.mk "D" 3 1 false "" "" 8)]),2,16,(Value.agg #[zI,zI]),some dh⟩),
 (176,⟨(TypeDesc.pointer 147),1,8,(Value.pointer Option.none),none⟩),
 (181,⟨(TypeDesc.struct #[(Field.mk "t" 75 0 Bool.false "" "limewash/ray" 0),(Field.mk "l" 22 1 Bool.false "" "limewash/ray" 24),(Field.mk "a" 27 2 Bool.false "" "limewash/ray" 48),(Field.mk "b" 27 5 Bool.false "" "limewash/ray" 72)]),8,96,(Value.agg #[(Value.slice Option.none 0 0),(Value.slice Option.none 0 0),zI,zI,zI,zI,zI,zI]),some (.prod (.sl (.prod (.prod aG aG) (.prod yi (.prod yi (.sl yi))))) (.prod (.sl cO) (.prod aG aG)))⟩),
 (185,⟨(TypeDesc.pointer 78),1,8,(Value.pointer Option.none),none⟩),
 (187,⟨(TypeDesc.pointer 2),1,8,(Value.pointer Option.none),none⟩),
 (188,⟨(TypeDesc.pointer 74),1,8,(Value.pointer Option.none),none⟩),
 (192,⟨(TypeDesc.slice 4),1,24,(Value.slice Option.none 0 0),some (.sl .bool)⟩),
 (194,⟨(TypeDesc.struct #[(Field.mk "Low" 27 0 false "" "" 0),(Field.mk "High" 27 3 false "" "" 24)]),6,48,(Value.agg #[zI,zI,zI,zI,zI,zI]),some (.prod aG aG)⟩),
 (196,⟨(TypeDesc.struct #[(Field.mk "Box" 194 0 false "" "" 0),(Field.mk "Left" 3 6 false "" "" 48),(Field.mk "Right" 3 7 false "" "" 56),(Field.mk "Tris" 38 8 false "" "" 64)]),9,88,(Value.agg #[zI,zI,zI,zI,zI,zI,zI,zI,(Value.slice Option.none 0 0)]),some (.prod (.prod aG aG) (.prod yi (.prod yi (.sl yi))))⟩),
 (198,⟨(TypeDesc.struct #[(Field.mk "Branch" 196 0 Bool.true "" "" 0),(Field.mk "at" 3 9 Bool.false "" "limewash/tree" 88)]),10,96,(Value.agg #[zI,zI,zI,zI,zI,zI,zI,zI,(Value.slice Option.none 0 0),zI]),some (.prod (.prod (.prod aG aG) (.prod yi (.prod yi (.sl yi)))) yi)⟩),
 (202,⟨(TypeDesc.slice 44),1,24,(Value.slice Option.none 0 0),some (.sl cO)⟩),
 (203,⟨(TypeDesc.func #[38] #[] Bool.false),1,8,Value.nilFunc,none⟩),
 (208,⟨(TypeDesc.pointer 68),1,8,(Value.pointer Option.none),none⟩),
 (210,⟨(TypeDesc.pointer 66),1,8,(Value.pointer Option.none),none⟩),
 (212,⟨(TypeDesc.func #[99] #[] Bool.false),1,8,Value.nilFunc,none⟩),
 (213,⟨(TypeDesc.func #[99] #[] Bool.false),1,8,Value.nilFunc,none⟩),
 (221,⟨(TypeDesc.func #[3,3,3] #[] Bool.false),1,8,Value.nilFunc,none⟩),
 (228,⟨(TypeDesc.struct #[(Field.mk "forest" 202 0 Bool.true "" "limewash/tree" 0),(Field.mk "axis" 3 1 Bool.false "" "limewash/tree" 24)]),2,32,(Value.agg #[(Value.slice Option.none 0 0),zI]),some (.prod (.sl cO) yi)⟩),
 (233,⟨(TypeDesc.int IntKind.u64),1,8,(Value.int IntKind.u64 (0:Int)),some (.int .u64)⟩),
 (237,⟨(TypeDesc.struct #[(Field.mk "N" 3 0 false "" "" 0),(Field.mk "D" 3 1 false "" "" 8)]),2,16,(Value.agg #[zI,zI]),some dh⟩),
 (253,⟨(TypeDesc.int IntKind.u64),1,8,(Value.int IntKind.u64 (0:Int)),some (.int .u64)⟩),
 (255,⟨(TypeDesc.func #[253,253] #[253,253] Bool.false),1,8,Value.nilFunc,none⟩),
 (256,⟨(TypeDesc.struct #[(Field.mk "Hi" 3 0 false "" "" 0),(Field.mk "Lo" 3 1 false "" "" 8)]),2,16,(Value.agg #[zI,zI]),some dh⟩),
 (257,⟨(TypeDesc.struct #[(Field.mk "Hi" 3 0 false "" "" 0),(Field.mk "Lo" 3 1 false "" "" 8)]),2,16,(Value.agg #[zI,zI]),some dh⟩),
 (262,⟨(TypeDesc.int IntKind.i64),1,8,zI,some yi⟩),
 (274,⟨(TypeDesc.array 2 3),2,16,(Value.agg #[zI,zI]),some dh⟩)]
set_option maxRecDepth 100000 in
theorem bt:di Tryz.prog tt:=di.all (by kernel_rfl) (by kernel_rfl)
theorem mixed:Tryz.prog.follows .mixedOrders=true:=by kernel_rfl
section
variable {specs:List (Nat×Go.Ev.Spec)} {n:FuncId} {fn:Func}
theorem bS (s:bF) {i:Bool} (t:s.p.ty.T->Tr s.r.ty.T i) {its:List (Nat×cP)} {lp:s.p.ty.T->List (Nat×br)} (hS:aj Tryz.prog specs) (hits:aH Tryz.prog cf its) (hl: ∀x,aK Tryz.prog cf (aC fn) (lp x)) (hk:(Tryz.prog.funcs[n]?,cZ (ids (aC fn)),s.r.res)=(some fn,true,true):=by kernel_rfl) (he: ∀x,(s.pre x,s.f x)=(Tr.pI i (t x).pre,(t x).val):=by intro x;kernel_rfl)
  (h: ∀x Q,JD ⟨tt,specs,cf,lp x,[],its⟩ fn (cy s.p x) (da s.p x) (l9 s.r Q)=(t x).wp Q []:=by intro x Q;kernel_rfl):aq Tryz.prog n (ah s):=aq.tr s t bt hS mixed hk hits hl he h
theorem aM (s:bF) {i:Bool} (t:s.p.ty.T->Tr s.r.ty.T i) (hS:aj Tryz.prog specs) (hk:(Tryz.prog.funcs[n]?,cZ (ids (aC fn)),s.r.res)=(some fn,true,true):=by kernel_rfl) (he: ∀x,(s.pre x,s.f x)=(Tr.pI i (t x).pre,(t x).val):=by intro x;kernel_rfl)
  (h: ∀x Q,JD ⟨tt,specs,cf,[],[],[]⟩ fn (cy s.p x) (da s.p x) (l9 s.r Q)=(t x).wp Q []:=by intro x Q;kernel_rfl):aq Tryz.prog n (ah s):=aq.tr s t bt hS mixed hk (aH.nil _ _) (fun _=>aK.nil) he h
theorem aA {s:Go.Ev.Spec} (h:aq Tryz.prog n s) (hl:aj Tryz.prog specs) (hk:(Tryz.prog.funcs[n]?,fn.name== "runtime.NumGoroutine",fn.body.isNone)=(some fn,false,false):=by kernel_rfl):aj Tryz.prog ((n,s)::specs):=aj.add hk h hl
theorem bX {lp:List (Nat×br)} {c:Code} (hS:aj Tryz.prog specs) (id:Nat) (L:aI) {i:Bool} (t:L.S->Tr (L.S⊕L.R) i) (hl:aK Tryz.prog cf c lp) (hk:(cZ (ids c),bD id c,L.ok id)=(true,some (.loop (cI (blk id c))),true):=by kernel_rfl)
  (h: ∀g s Q,cJ ⟨tt,specs,cf,lp,[],[]⟩ (cI (blk id c)) (L.SX.fill g s) (L.kb g Q)=(t s).wp (L.post g Q) (Ov L.gt g):=by intro g s Q;kernel_rfl):aK Tryz.prog cf c ((id,L.sp t)::lp):=aK.tr bt (aj.F0 hS (aH.nil _ _)) mixed id L t hl hk h
end
end Go.Proofs.YtngdehlpoomaiaaGreat
namespace Go.Proofs.YtngdehlpoomaiaaGreat
open Go Go.Ev Go.Proofs
def isNaN (x:Int):Bool:=
 (x !=x)
def aeI (_:Int):Prop:=True
def amQ (x:Int):Tr Bool false:=
 (.ret (x !=x))
abbrev Dw:bF:=⟨(.one yi),(.one Ty.bool),aeI,isNaN⟩
theorem aiK:aq Tryz.prog 215 (ah Dw):=aq.tr Dw amQ (fn:=Tryz.f215) bt (aj.nil _) mixed (by kernel_rfl) (aH.nil _ _) (fun x=>aK.nil) (fun x=>(by kernel_rfl)) fun x Q=>(by kernel_rfl)
def XJ:List (Nat×Ev.Spec):=(215,ah Dw):: []
theorem Im:aj Tryz.prog XJ:=aA (fn:=Tryz.f215) aiK (aj.nil _)
def compare (x:I2):Int:=
 (ak (isNaN x.1) fun y=>
 (ak (isNaN x.2) fun aB=>
 (if (y=true) then
 (if (aB=true) then
 0 else
 (-1)) else
 (if (aB=true) then
 1 else
 (if (x.1<x.2) then
 (-1) else
 (if (x.1>x.2) then
 1 else
 0))))))
def Va (_:I2):Prop:=True
def adR (x:I2):Tr Int false:=
 (.fn0 Dw x.1 trivial fun y=>
 (.fn0 Dw x.2 trivial fun aB=>
 (.iY y
 (.iY aB
 (.ret z0)
 (.ret (-1)))
 (.iY aB
 (.ret z1)
 (.iz (x.1<x.2)
 (.ret (-1))
 (.iz (x.1>x.2)
 (.ret z1)
 (.ret z0)))))))
abbrev eZ:bF:=⟨(.pair (.one yi) (.one yi)),(.one yi),Va,compare⟩
theorem YX:aq Tryz.prog 198 (ah eZ):=aM eZ adR (fn:=Tryz.f198) Im
def MK:List (Nat×Ev.Spec):=(198,ah eZ)::XJ
theorem tf:aj Tryz.prog MK:=aA (fn:=Tryz.f198) YX Im
def U9 (x:(List Int)):aI:=⟨[],⟨cj 18 0 [(3,.v (.one (.i .i64))),(6,.v (.one (.full 0))),(7,.v (.one (.i .i64))),(8,.v (.one (.i .i64)))],[.row yi 0],0,none,[],[0,1,3],[2],[.i],[.i 0,.i (x.length:Int),.l yi x]⟩,[⟨.ret,.ret,⟨cj 18 0 [(2,.v (.one (.i .i64)))],[],0,none,[],[],[0],[.i],[]⟩⟩,⟨(.exit 0),.normal,⟨cj 18 0 [(3,.v (.one (.i .i64)))],[],0,none,[],[0],[],[],[.i 0]⟩⟩]⟩
def dZ (x:(List Int)) (s:Int):Int⊕(Int⊕Unit):=
 (if (s<(x.length:Int)) then
 (if (((x.getD s.toNat 0) !=0)=true) then
 (Sum.inr (Sum.inl (x.getD s.toNat 0))) else
 (Sum.inl (au (s+1)))) else
 (Sum.inr (Sum.inr (()))))
def gQ (x:(List Int)) (s:Int):Prop:=
 ((s<(x.length:Int))->
 (((0<=s)/\ (s<(x.length:Int)))/\
 ((s.toNat<x.length)/\
 (s.toNat<x.length))))
def KU (x:(List Int)) (s:Int):Tr (Int⊕(Int⊕Unit)) true:=
 (.i10 (s<(nL x))
 (.A7 s x
 (.iY ((gI x s) !=z0)
 (.ret (.inr (Sum.inl (gI x s))))
 (.ret (.inl (w1 s)))))
 (.ret (.inr (Sum.inr (())))))
def KT (x:(List Int)):Int:=
 (ak (run (dZ x) 0) fun r=>
 (Sum.elim (fun a=>
 a) (fun b=>
 0) r))
def pZ (x:(List Int)):Prop:=
 (Term (dZ x) (gQ x) 0)
def alN (x:(List Int)):Tr Int true:=
 (aI.lp (U9 x) (KU x) z0 fun r=>
 (.Jr r (fun a=>
 (.ret a)) (fun b=>
 (.ret z0))))
abbrev uY:bF:=⟨(.one (Ty.sl yi)),(.one yi),pZ,KT⟩
theorem ahf:aq Tryz.prog 197 (ah uY):=bS uY alN (fn:=Tryz.f197) tf (aH.nil _ _) (fun x=>(bX tf 0 (U9 x) (KU x) aK.nil))
def Xt:List (Nat×Ev.Spec):=(197,ah uY)::MK
theorem yU:aj Tryz.prog Xt:=aA (fn:=Tryz.f197) ahf tf
def middle (x:((List I9×Int)×Int)):Int:=
 (au ((au ((au (0+(List.getD [(x.1.1.getD x.2.toNat ((0,0,0),(0,0,0),0,0,0)).1.1,(x.1.1.getD x.2.toNat ((0,0,0),(0,0,0),0,0,0)).1.2.1,(x.1.1.getD x.2.toNat ((0,0,0),(0,0,0),0,0,0)).1.2.2] (x.1.2.toNat*1) 0)))+(List.getD [(x.1.1.getD x.2.toNat ((0,0,0),(0,0,0),0,0,0)).2.1.1,(x.1.1.getD x.2.toNat ((0,0,0),(0,0,0),0,0,0)).2.1.2.1,(x.1.1.getD x.2.toNat ((0,0,0),(0,0,0),0,0,0)).2.1.2.2] (x.1.2.toNat*1) 0)))+(List.getD [(x.1.1.getD x.2.toNat ((0,0,0),(0,0,0),0,0,0)).2.2.1,(x.1.1.getD x.2.toNat ((0,0,0),(0,0,0),0,0,0)).2.2.2.1,(x.1.1.getD x.2.toNat ((0,0,0),(0,0,0),0,0,0)).2.2.2.2] (x.1.2.toNat*1) 0)))
def qI (x:((List I9×Int)×Int)):Prop:=
 (((0<=x.2)/\ (x.2<(x.1.1.length:Int)))/\
 ((x.2.toNat<x.1.1.length)/\
 ((x.2.toNat<x.1.1.length)/\
 (((0<=x.1.2)/\ (x.1.2<3))/\
 (((0<=x.1.2)/\ (x.1.2<3))/\
 ((0<=x.1.2)/\ (x.1.2<3)))))))
def ajb (x:((List I9×Int)×Int)):Tr Int true:=
 (.A7 x.2 x.1.1
 (.oR x.1.2 3
 (.oR x.1.2 3
 (.oR x.1.2 3
 (.ret (au ((au ((au (z0+(List.getD [(gT x.1.1 x.2 Ju).1.1,(gT x.1.1 x.2 Ju).1.2.1,(gT x.1.1 x.2 Ju).1.2.2] ((tN x.1.2)*1) z0)))+(List.getD [(gT x.1.1 x.2 Ju).2.1.1,(gT x.1.1 x.2 Ju).2.1.2.1,(gT x.1.1 x.2 Ju).2.1.2.2] ((tN x.1.2)*1) z0)))+(List.getD [(gT x.1.1 x.2 Ju).2.2.1,(gT x.1.1 x.2 Ju).2.2.2.1,(gT x.1.1 x.2 Ju).2.2.2.2] ((tN x.1.2)*1) z0))))))))
abbrev yg:bF:=⟨(.pair (.agg (Ty.prod (Ty.sl cO) yi)) (.one yi)),(.one yi),qI,middle⟩
theorem ae2:aq Tryz.prog 199 (ah yg):=bS yg ajb (fn:=Tryz.f199) yU (aH.nil _ _) (fun x=>(aK.pW bt (aj.F0 yU (aH.nil _ _)) mixed 0 4 aK.nil (by kernel_rfl)))
def Rg:List (Nat×Ev.Spec):=(199,ah yg)::Xt
theorem ES:aj Tryz.prog Rg:=aA (fn:=Tryz.f199) ae2 yU
def byM (x:((List I9×Int)×I2)):Int:=
 (ak (middle (x.1,x.2.1)) fun y=>
 (ak (middle (x.1,x.2.2)) fun aB=>
 (ak (compare (y,aB)) fun y_2=>
 (ak (compare x.2) fun bI=>
 (ak (KT [y_2,bI]) fun dG=>
 dG)))))
def CY (x:((List I9×Int)×I2)):Prop:=
 ((qI (x.1,x.2.1))/\
 az (middle (x.1,x.2.1)) fun y=>
 ((qI (x.1,x.2.2))/\
 az (middle (x.1,x.2.2)) fun aB=>
 (az (compare (y,aB)) fun y_2=>
 (az (compare x.2) fun bI=>
 (pZ [y_2,bI])))))
def art (x:((List I9×Int)×I2)):Tr Int true:=
 (.fn yg (x.1,x.2.1) fun y=>
 (.fn yg (x.1,x.2.2) fun aB=>
 (.fn0 eZ (y,aB) trivial fun y_2=>
 (.fn0 eZ x.2 trivial fun bI=>
 (.fn uY [y_2,bI] fun dG=>
 (.ret dG))))))
abbrev abN:bF:=⟨(.pair (.agg (Ty.prod (Ty.sl cO) yi)) (.pair (.one yi) (.one yi))),(.one yi),CY,byM⟩
theorem ao3:aq Tryz.prog 179 (ah abN):=aM abN art (fn:=Tryz.f179) ES
def akb:List (Nat×Ev.Spec):=(179,ah abN)::Rg
theorem AG:aj Tryz.prog akb:=aA (fn:=Tryz.f179) ao3 ES
abbrev ao5:mG:= .mv 179 true (.prod (.sl (.prod (.prod (.int .i64) (.prod (.int .i64) (.int .i64))) (.prod (.prod (.int .i64) (.prod (.int .i64) (.int .i64))) (.prod (.int .i64) (.prod (.int .i64) (.int .i64)))))) (.int .i64))
abbrev RT:Type:=List I9×Int
end Go.Proofs.YtngdehlpoomaiaaGreat
