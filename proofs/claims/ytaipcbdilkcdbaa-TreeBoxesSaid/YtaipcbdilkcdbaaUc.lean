/- Models: what is built; what is right. -/
import Derived.Test.YtaipcbdilkcdbaaVd
noncomputable section
set_option linter.unusedSectionVars false
set_option linter.unusedVariables false
set_option linter.unusedSimpArgs false
namespace Go.Proofs.Ytaipcbdilkcdbaa
open Go Go.Ev Go.Proofs
def sp_spl1 : List (Nat × Ev.Spec) := (28,fnSpec containsI_S) :: sp_boxF
theorem sp_spl1_ok : SpecsOk Try.prog sp_spl1 := SpecsOk.add (fn := Try.f28) (by kernel_rfl) containsI_ok sp_boxF_ok
def splitN_i0 : ItsB Try.prog := ⟨_,(ItsOk.walk tt_ok sp_spl1_ok mixed 19 (fn := Try.f19) (by kernel_rfl) (ItsOk.nil _ _) fun ys hy => LpsOk.nil)⟩
def splitN (x : ((List I9) × (List Int))) : ((List Int) × ((List Int) × Int)) :=
 (letV (smallF x.1) fun y =>
 (if ((!y) = true) then
 ([],([],(5:Int))) else
 (if ((x.2.length:Int) < (2:Int)) then
 ([],([],(1:Int))) else
 (letV (containsI (x.2,x.1)) fun y_1 =>
 (if (y_1 = true) then
 ([],([],(1:Int))) else
 (letV (boxF x) fun y_2 =>
 (letV (longest y_2) fun y_3 =>
 (letV (cloneI x.2) fun y_4 =>
 (letV (sortM (y_4,(x.1,y_3.1))) fun y_5 =>
 (letV (cloneI (List.drop (Int.toNat (w64 (Int.tdiv (y_5.2.1.length:Int) (2:Int)))) y_5.2.1)) fun y_6 =>
 ((List.take (Int.toNat (w64 (Int.tdiv (y_5.2.1.length:Int) (2:Int)))) y_5.2.1),(y_6,(0:Int)))))))))))))
def splitN_pre (x : ((List I9) × (List Int))) : Prop :=
 ((smallF_pre x.1) ∧
 letP (smallF x.1) fun y =>
 (¬ ((!y) = true) →
 (¬ ((x.2.length:Int) < (2:Int)) →
 ((containsI_pre (x.2,x.1)) ∧
 letP (containsI (x.2,x.1)) fun y_1 =>
 (¬ (y_1 = true) →
 ((boxF_pre x) ∧
 letP (boxF x) fun y_2 =>
 ((longest_pre y_2) ∧
 letP (longest y_2) fun y_3 =>
 ((cloneI_pre x.2) ∧
 letP (cloneI x.2) fun y_4 =>
 ((sortM_pre (y_4,(x.1,y_3.1))) ∧
 letP (sortM (y_4,(x.1,y_3.1))) fun y_5 =>
 ((((0:Int) ≤ (w64 (Int.tdiv (y_5.2.1.length:Int) (2:Int)))) ∧ ((w64 (Int.tdiv (y_5.2.1.length:Int) (2:Int))) ≤ (y_5.2.1.length:Int))) ∧
 ((((0:Int) ≤ (w64 (Int.tdiv (y_5.2.1.length:Int) (2:Int)))) ∧ ((w64 (Int.tdiv (y_5.2.1.length:Int) (2:Int))) ≤ (((Int.toNat (w64 (Int.tdiv (y_5.2.1.length:Int) (2:Int)))):Nat):Int))) ∧
 ((((0:Int) ≤ (w64 (Int.tdiv (y_5.2.1.length:Int) (2:Int)))) ∧ ((w64 (Int.tdiv (y_5.2.1.length:Int) (2:Int))) ≤ (y_5.2.1.length:Int))) ∧
 (cloneI_pre (List.drop (Int.toNat (w64 (Int.tdiv (y_5.2.1.length:Int) (2:Int)))) y_5.2.1))))))))))))))
def splitN_t (x : ((List I9) × (List Int))) : Tr ((List Int) × ((List Int) × Int)) true :=
 (.fn smallF_S x.1 fun y =>
 (.b01 (!y)
 (.ret ([],([],(5:Int))))
 (.i01 ((nL x.2) < (2:Int))
 (.ret ([],([],z1)))
 (.fn containsI_S (x.2,x.1) fun y_1 =>
 (.b01 y_1
 (.ret ([],([],z1)))
 (.allE
 (.fn boxF_S x fun y_2 =>
 (.fn longest_S y_2 fun y_3 =>
 (.fn cloneI_S x.2 fun y_4 =>
 (.fnW sortM_S (y_4,(x.1,y_3.1)) fun y_5 =>
 (.og ((decide (z0 ≤ (w64 (Int.tdiv (nL y_5.2.1) (2:Int))))) && (decide ((w64 (Int.tdiv (nL y_5.2.1) (2:Int))) ≤ (nL y_5.2.1)))) ((z0 ≤ (w64 (Int.tdiv (nL y_5.2.1) (2:Int)))) ∧ ((w64 (Int.tdiv (nL y_5.2.1) (2:Int))) ≤ (nL y_5.2.1))) (fun h => (and_t (decide_eq_true h.1) (decide_eq_true h.2)))
 (.og ((decide (z0 ≤ (w64 (Int.tdiv (nL y_5.2.1) (2:Int))))) && (decide ((w64 (Int.tdiv (nL y_5.2.1) (2:Int))) ≤ (((tN (w64 (Int.tdiv (nL y_5.2.1) (2:Int)))):Nat):Int)))) ((z0 ≤ (w64 (Int.tdiv (nL y_5.2.1) (2:Int)))) ∧ ((w64 (Int.tdiv (nL y_5.2.1) (2:Int))) ≤ (((tN (w64 (Int.tdiv (nL y_5.2.1) (2:Int)))):Nat):Int))) (fun h => (and_t (decide_eq_true h.1) (decide_eq_true h.2)))
 (.og ((decide (z0 ≤ (w64 (Int.tdiv (nL y_5.2.1) (2:Int))))) && (decide ((w64 (Int.tdiv (nL y_5.2.1) (2:Int))) ≤ (nL y_5.2.1)))) ((z0 ≤ (w64 (Int.tdiv (nL y_5.2.1) (2:Int)))) ∧ ((w64 (Int.tdiv (nL y_5.2.1) (2:Int))) ≤ (nL y_5.2.1))) (fun h => (and_t (decide_eq_true h.1) (decide_eq_true h.2)))
 (.pn 0 3
 (.fn cloneI_S (List.drop (tN (w64 (Int.tdiv (nL y_5.2.1) (2:Int)))) y_5.2.1) fun y_6 =>
 (.ret ((List.take (tN (w64 (Int.tdiv (nL y_5.2.1) (2:Int)))) y_5.2.1),(y_6,z0))))))))))))))))))
abbrev splitN_S : FnS := ⟨(.pair (.one (Ty.sl yy9)) (.one (Ty.sl yi))),(.pair (.one (Ty.sl yi)) (.pair (.one (Ty.sl yi)) (.one yi))),splitN_pre,splitN⟩
theorem splitN_ok : SpecOk Try.prog 11 (fnSpecN splitN_S) := SpecOk.trN splitN_S splitN_t (fn := Try.f11) tt_ok sp_spl1_ok mixed (by kernel_rfl) splitN_i0.ok (fun x => LpsOk.nil) (fun x => (by kernel_rfl)) fun x Q => (by kernel_rfl)
def sp_splitN : List (Nat × Ev.Spec) := (11,fnSpecN splitN_S) :: sp_spl1
theorem sp_splitN_ok : SpecsOk Try.prog sp_splitN := SpecsOk.add (fn := Try.f11) (by kernel_rfl) splitN_ok sp_spl1_ok
def sp_growT : List (Nat × Ev.Spec) := (16,fnSpecO growT_S) :: sp_splitN
theorem sp_growT_ok : SpecsOk Try.prog sp_growT := SpecsOk.add (fn := Try.f16) (by kernel_rfl) growT_ok sp_splitN_ok
def buildT_l1 (x : (List I9)) : LoopD := ⟨[],⟨pvs 36 0 [(5,.v (.one (.ptr 0 0))),(6,.v (.one (.ptr 1 0))),(7,.v (.one (.full 4))),(15,.v (.one (.i .i64))),(16,.v (.one (.i .i64)))],[.cells [.raw] 23,.cells [.clo 16 0 [.loc 0 0,.loc 2 0,.loc 1 0]] 48,.cells [.full 3] 47,.row yy9 0,.row yi 2],0,none,[],[0,2,3],[4,1],[(.l yi),.i],[.i ((List.replicate (List.length x) (0:Int)).length:Int),.v (.slice none 0 0),.l yy9 x]⟩,[⟨(.exit 1),.normal,⟨pvs 36 0 [(5,.v (.one (.ptr 0 0))),(6,.v (.one (.ptr 1 0))),(7,.v (.one (.full 4)))],[.cells [.raw] 23,.cells [.clo 16 0 [.loc 0 0,.loc 2 0,.loc 1 0]] 48,.cells [.full 3] 47,.row yy9 0,.row yi 2],0,none,[],[0,1],[2],[(.l yi)],[.v (.slice none 0 0),.l yy9 x]⟩⟩]⟩
def buildT_l1_step (x : (List I9)) (s : ((List Int) × Int)) : ((List Int) × Int) ⊕ (List Int) :=
 (if (s.2 < ((List.replicate (List.length x) (0:Int)).length:Int)) then
 (letV (List.set s.1 (Int.toNat s.2) s.2) fun y =>
 (Sum.inl (y,(w64 (s.2 + (1:Int)))))) else
 (Sum.inr (s.1)))
def buildT_l1_pre (x : (List I9)) (s : ((List Int) × Int)) : Prop :=
 ((s.2 < ((List.replicate (List.length x) (0:Int)).length:Int)) →
 ((((0:Int) ≤ s.2) ∧ (s.2 < (s.1.length:Int))) ∧
 (((Int.toNat s.2) < (List.length s.1)) ∧
 ((Int.toNat s.2) < (List.length s.1)))))
def buildT_l1_t (x : (List I9)) (s : ((List Int) × Int)) : Tr (((List Int) × Int) ⊕ (List Int)) true :=
 (.i10 (s.2 < (nL (List.replicate (List.length x) z0)))
 (.oI2 s.2 s.1
 (.lt (List.set s.1 (tN s.2) s.2) fun y =>
 (.ret (.inl (y,(w1 s.2))))))
 (.ret (.inr (s.1))))
def buildT (x : (List I9)) : ((List ((I3 × I3) × (Int × (Int × (List Int))))) × Int) :=
 (if ((x.length:Int) > (500:Int)) then
 ([],(2:Int)) else
 (letV (smallF x) fun y =>
 (if ((!y) = true) then
 ([],(5:Int)) else
 (letV (run (buildT_l1_step x) ((List.replicate (List.length x) (0:Int)),(0:Int))) fun r =>
 (letV (growT (r,(x,[]))) fun y_1 =>
 (y_1,(0:Int)))))))
def buildT_pre (x : (List I9)) : Prop :=
 (¬ ((x.length:Int) > (500:Int)) →
 ((smallF_pre x) ∧
 letP (smallF x) fun y =>
 (¬ ((!y) = true) →
 ((((x.length:Int) ≤ (x.length:Int)) ∧ ((List.length x) < 1099511627776)) ∧
 (Term (buildT_l1_step x) (buildT_l1_pre x) ((List.replicate (List.length x) (0:Int)),(0:Int)) ∧
 letP (run (buildT_l1_step x) ((List.replicate (List.length x) (0:Int)),(0:Int))) fun r =>
 (growT_pre (r,(x,[]))))))))
def buildT_t (x : (List I9)) : Tr ((List ((I3 × I3) × (Int × (Int × (List Int))))) × Int) true :=
 (.i01 ((nL x) > (500:Int))
 (.ret ([],(2:Int)))
 (.fn smallF_S x fun y =>
 (.b01 (!y)
 (.ret ([],(5:Int)))
 (.og (((decide (z0 ≤ (nL x))) && (decide ((nL x) ≤ (nL x)))) && (decide ((List.length x) < 1099511627776))) (((nL x) ≤ (nL x)) ∧ ((List.length x) < 1099511627776)) (fun h => (and_t (and_t rfl (decide_eq_true h.1)) (decide_eq_true h.2)))
 (LoopD.lp (buildT_l1 x) (buildT_l1_t x) ((List.replicate (List.length x) z0),z0) fun r =>
 (.fnO growT_S (r,(x,[])) fun y_1 =>
 (.ret (y_1,z0))))))))
abbrev buildT_S : FnS := ⟨(.one (Ty.sl yy9)),(.pair (.one (Ty.sl (Ty.prod (Ty.prod yy3 yy3) (Ty.prod yi (Ty.prod yi (Ty.sl yi)))))) (.one yi)),buildT_pre,buildT⟩
theorem buildT_ok : SpecOk Try.prog 7 (fnSpec buildT_S) := SpecOk.tr buildT_S buildT_t (fn := Try.f7) tt_ok sp_growT_ok mixed (by kernel_rfl) (ItsOk.nil _ _) (fun x => (LpsOk.tr tt_ok (SpecsOk.ctxI sp_growT_ok (ItsOk.nil _ _)) mixed 1 (buildT_l1 x) (buildT_l1_t x) LpsOk.nil (by kernel_rfl) fun g s Q => (by kernel_rfl))) (fun x => (by kernel_rfl)) fun x Q => (by kernel_rfl)
def sp_buildT : List (Nat × Ev.Spec) := (7,fnSpec buildT_S) :: sp_growT
theorem sp_buildT_ok : SpecsOk Try.prog sp_buildT := SpecsOk.add (fn := Try.f7) (by kernel_rfl) buildT_ok sp_growT_ok
def hasT (x : ((I3 × I3) × I3)) : Bool :=
 (letV (slabIs x.1) fun y =>
 (if (y = true) then
 (letV (hasB x) fun y_1 =>
 y_1) else
 false))
def hasT_pre (x : ((I3 × I3) × I3)) : Prop :=
 (slabIs_pre x.1)
def hasT_t (x : ((I3 × I3) × I3)) : Tr Bool true :=
 (.fn slabIs_S x.1 fun y =>
 (.b00 y
 (.fn0 hasB_S x trivial fun y_1 =>
 (.ret y_1))
 (.ret false)))
abbrev hasT_S : FnS := ⟨(.pair (.agg (Ty.prod yy3 yy3)) (.agg yy3)),(.one Ty.bool),hasT_pre,hasT⟩
theorem hasT_ok : SpecOk Try.prog 13 (fnSpec hasT_S) := SpecOk.tr hasT_S hasT_t (fn := Try.f13) tt_ok sp_buildT_ok mixed (by kernel_rfl) (ItsOk.nil _ _) (fun x => LpsOk.nil) (fun x => (by kernel_rfl)) fun x Q => (by kernel_rfl)
def sp_hasT : List (Nat × Ev.Spec) := (13,fnSpec hasT_S) :: sp_buildT
theorem sp_hasT_ok : SpecsOk Try.prog sp_hasT := SpecsOk.add (fn := Try.f13) (by kernel_rfl) hasT_ok sp_buildT_ok
def joinT (x : ((I3 × I3) × (I3 × I3))) : ((I3 × I3) × Int) :=
 (letV (slabIs x.1) fun y =>
 (if ((!y) = true) then
 ((((0:Int),((0:Int),(0:Int))),((0:Int),((0:Int),(0:Int)))),(1:Int)) else
 (letV (slabIs x.2) fun y_1 =>
 (if ((!y_1) = true) then
 ((((0:Int),((0:Int),(0:Int))),((0:Int),((0:Int),(0:Int)))),(1:Int)) else
 (letV (slabOf [x.1.1,x.1.2,x.2.1,x.2.2]) fun y_2 =>
 y_2)))))
def joinT_pre (x : ((I3 × I3) × (I3 × I3))) : Prop :=
 ((slabIs_pre x.1) ∧
 letP (slabIs x.1) fun y =>
 (¬ ((!y) = true) →
 ((slabIs_pre x.2) ∧
 letP (slabIs x.2) fun y_1 =>
 (¬ ((!y_1) = true) →
 (slabOf_pre [x.1.1,x.1.2,x.2.1,x.2.2])))))
def joinT_t (x : ((I3 × I3) × (I3 × I3))) : Tr ((I3 × I3) × Int) true :=
 (.fn slabIs_S x.1 fun y =>
 (.b01 (!y)
 (.ret ((zz3,zz3),z1))
 (.fn slabIs_S x.2 fun y_1 =>
 (.b01 (!y_1)
 (.ret ((zz3,zz3),z1))
 (.fn slabOf_S [x.1.1,x.1.2,x.2.1,x.2.2] fun y_2 =>
 (.ret y_2))))))
abbrev joinT_S : FnS := ⟨(.pair (.agg (Ty.prod yy3 yy3)) (.agg (Ty.prod yy3 yy3))),(.pair (.agg (Ty.prod yy3 yy3)) (.one yi)),joinT_pre,joinT⟩
theorem joinT_ok : SpecOk Try.prog 14 (fnSpec joinT_S) := SpecOk.tr joinT_S joinT_t (fn := Try.f14) tt_ok sp_hasT_ok mixed (by kernel_rfl) (ItsOk.nil _ _) (fun x => LpsOk.nil) (fun x => (by kernel_rfl)) fun x Q => (by kernel_rfl)
def sp_joinT : List (Nat × Ev.Spec) := (14,fnSpec joinT_S) :: sp_hasT
theorem sp_joinT_ok : SpecsOk Try.prog sp_joinT := SpecsOk.add (fn := Try.f14) (by kernel_rfl) joinT_ok sp_hasT_ok
def leafN (x : (((I3 × I3) × (Int × (Int × (List Int)))) × Int)) : Bool :=
 (if ((x.1.2.1 == (0:Int)) = true) then
 (x.1.2.2.1 == (0:Int)) else
 false)
def leafN_pre (_ : (((I3 × I3) × (Int × (Int × (List Int)))) × Int)) : Prop := True
def leafN_t (x : (((I3 × I3) × (Int × (Int × (List Int)))) × Int)) : Tr Bool false :=
 (.b00 (x.1.2.1 == z0)
 (.ret (x.1.2.2.1 == z0))
 (.ret false))
abbrev leafN_S : FnS := ⟨(.agg (Ty.prod (Ty.prod (Ty.prod yy3 yy3) (Ty.prod yi (Ty.prod yi (Ty.sl yi)))) yi)),(.one Ty.bool),leafN_pre,leafN⟩
theorem leafN_ok : SpecOk Try.prog 26 (fnSpec leafN_S) := SpecOk.tr leafN_S leafN_t (fn := Try.f26) tt_ok sp_joinT_ok mixed (by kernel_rfl) (ItsOk.nil _ _) (fun x => LpsOk.nil) (fun x => (by kernel_rfl)) fun x Q => (by kernel_rfl)
def sp_leafN : List (Nat × Ev.Spec) := (26,fnSpec leafN_S) :: sp_joinT
theorem sp_leafN_ok : SpecsOk Try.prog sp_leafN := SpecsOk.add (fn := Try.f26) (by kernel_rfl) leafN_ok sp_joinT_ok
def hasN (x : ((((I3 × I3) × (Int × (Int × (List Int)))) × Int) × I9)) : Bool :=
 (letV (hasT (x.1.1.1,x.2.1)) fun y =>
 (if (y = true) then
 (letV (hasT (x.1.1.1,x.2.2.1)) fun y_1 =>
 (if (y_1 = true) then
 (letV (hasT (x.1.1.1,x.2.2.2)) fun y_2 =>
 y_2) else
 false)) else
 false))
def hasN_pre (x : ((((I3 × I3) × (Int × (Int × (List Int)))) × Int) × I9)) : Prop :=
 ((hasT_pre (x.1.1.1,x.2.1)) ∧
 letP (hasT (x.1.1.1,x.2.1)) fun y =>
 ((y = true) →
 ((hasT_pre (x.1.1.1,x.2.2.1)) ∧
 letP (hasT (x.1.1.1,x.2.2.1)) fun y_1 =>
 ((y_1 = true) →
 (hasT_pre (x.1.1.1,x.2.2.2))))))
def hasN_t (x : ((((I3 × I3) × (Int × (Int × (List Int)))) × Int) × I9)) : Tr Bool true :=
 (.fn hasT_S (x.1.1.1,x.2.1) fun y =>
 (.b10 y
 (.fn hasT_S (x.1.1.1,x.2.2.1) fun y_1 =>
 (.b10 y_1
 (.fn hasT_S (x.1.1.1,x.2.2.2) fun y_2 =>
 (.ret y_2))
 (.ret false)))
 (.ret false)))
abbrev hasN_S : FnS := ⟨(.pair (.agg (Ty.prod (Ty.prod (Ty.prod yy3 yy3) (Ty.prod yi (Ty.prod yi (Ty.sl yi)))) yi)) (.agg yy9)),(.one Ty.bool),hasN_pre,hasN⟩
theorem hasN_ok : SpecOk Try.prog 23 (fnSpec hasN_S) := SpecOk.tr hasN_S hasN_t (fn := Try.f23) tt_ok sp_leafN_ok mixed (by kernel_rfl) (ItsOk.nil _ _) (fun x => LpsOk.nil) (fun x => (by kernel_rfl)) fun x Q => (by kernel_rfl)
def sp_hasN : List (Nat × Ev.Spec) := (23,fnSpec hasN_S) :: sp_leafN
theorem sp_hasN_ok : SpecsOk Try.prog sp_hasN := SpecsOk.add (fn := Try.f23) (by kernel_rfl) hasN_ok sp_leafN_ok
def mul32M (x : I2) : I2 :=
 ((IntKind.wrap IntKind.u32 (Int.fdiv (IntKind.wrap IntKind.u64 ((IntKind.wrap IntKind.u64 x.1) * (IntKind.wrap IntKind.u64 x.2))) (4294967296:Int))),(IntKind.wrap IntKind.u32 (IntKind.wrap IntKind.u64 ((IntKind.wrap IntKind.u64 x.1) * (IntKind.wrap IntKind.u64 x.2)))))
def mul32M_pre (_ : I2) : Prop := True
def mul32M_t (x : I2) : Tr I2 false :=
 (.ret ((IntKind.wrap IntKind.u32 (Int.fdiv (IntKind.wrap IntKind.u64 ((IntKind.wrap IntKind.u64 x.1) * (IntKind.wrap IntKind.u64 x.2))) (4294967296:Int))),(IntKind.wrap IntKind.u32 (IntKind.wrap IntKind.u64 ((IntKind.wrap IntKind.u64 x.1) * (IntKind.wrap IntKind.u64 x.2))))))
abbrev mul32M_S : FnS := ⟨(.pair (.one (Ty.int IntKind.u32)) (.one (Ty.int IntKind.u32))),(.pair (.one (Ty.int IntKind.u32)) (.one (Ty.int IntKind.u32))),mul32M_pre,mul32M⟩
theorem mul32M_ok : SpecOk Try.prog 66 (fnSpec mul32M_S) := SpecOk.tr mul32M_S mul32M_t (fn := Try.f66) tt_ok sp_hasN_ok mixed (by kernel_rfl) (ItsOk.nil _ _) (fun x => LpsOk.nil) (fun x => (by kernel_rfl)) fun x Q => (by kernel_rfl)
def sp_mul32M : List (Nat × Ev.Spec) := (66,fnSpec mul32M_S) :: sp_hasN
theorem sp_mul32M_ok : SpecsOk Try.prog sp_mul32M := SpecsOk.add (fn := Try.f66) (by kernel_rfl) mul32M_ok sp_hasN_ok
def mul64M (x : I2) : I2 :=
 ((IntKind.wrap IntKind.u64 ((IntKind.wrap IntKind.u64 ((IntKind.wrap IntKind.u64 ((Int.fdiv x.1 (4294967296:Int)) * (Int.fdiv x.2 (4294967296:Int)))) + (Int.fdiv (IntKind.wrap IntKind.u64 ((IntKind.wrap IntKind.u64 ((Int.fdiv x.1 (4294967296:Int)) * (IntKind.wrap IntKind.u64 (((BitVec.toNat ((BitVec.ofInt 64 x.2) &&& (BitVec.ofInt 64 (4294967295:Int)))):Nat):Int)))) + (Int.fdiv (IntKind.wrap IntKind.u64 ((IntKind.wrap IntKind.u64 (((BitVec.toNat ((BitVec.ofInt 64 x.1) &&& (BitVec.ofInt 64 (4294967295:Int)))):Nat):Int)) * (IntKind.wrap IntKind.u64 (((BitVec.toNat ((BitVec.ofInt 64 x.2) &&& (BitVec.ofInt 64 (4294967295:Int)))):Nat):Int)))) (4294967296:Int)))) (4294967296:Int)))) + (Int.fdiv (IntKind.wrap IntKind.u64 ((IntKind.wrap IntKind.u64 (((BitVec.toNat ((BitVec.ofInt 64 (IntKind.wrap IntKind.u64 ((IntKind.wrap IntKind.u64 ((Int.fdiv x.1 (4294967296:Int)) * (IntKind.wrap IntKind.u64 (((BitVec.toNat ((BitVec.ofInt 64 x.2) &&& (BitVec.ofInt 64 (4294967295:Int)))):Nat):Int)))) + (Int.fdiv (IntKind.wrap IntKind.u64 ((IntKind.wrap IntKind.u64 (((BitVec.toNat ((BitVec.ofInt 64 x.1) &&& (BitVec.ofInt 64 (4294967295:Int)))):Nat):Int)) * (IntKind.wrap IntKind.u64 (((BitVec.toNat ((BitVec.ofInt 64 x.2) &&& (BitVec.ofInt 64 (4294967295:Int)))):Nat):Int)))) (4294967296:Int))))) &&& (BitVec.ofInt 64 (4294967295:Int)))):Nat):Int)) + (IntKind.wrap IntKind.u64 ((IntKind.wrap IntKind.u64 (((BitVec.toNat ((BitVec.ofInt 64 x.1) &&& (BitVec.ofInt 64 (4294967295:Int)))):Nat):Int)) * (Int.fdiv x.2 (4294967296:Int)))))) (4294967296:Int)))),(IntKind.wrap IntKind.u64 (x.1 * x.2)))
def mul64M_pre (_ : I2) : Prop := True
def mul64M_t (x : I2) : Tr I2 false :=
 (.ret ((IntKind.wrap IntKind.u64 ((IntKind.wrap IntKind.u64 ((IntKind.wrap IntKind.u64 ((Int.fdiv x.1 (4294967296:Int)) * (Int.fdiv x.2 (4294967296:Int)))) + (Int.fdiv (IntKind.wrap IntKind.u64 ((IntKind.wrap IntKind.u64 ((Int.fdiv x.1 (4294967296:Int)) * (IntKind.wrap IntKind.u64 (((BitVec.toNat ((BitVec.ofInt 64 x.2) &&& (BitVec.ofInt 64 (4294967295:Int)))):Nat):Int)))) + (Int.fdiv (IntKind.wrap IntKind.u64 ((IntKind.wrap IntKind.u64 (((BitVec.toNat ((BitVec.ofInt 64 x.1) &&& (BitVec.ofInt 64 (4294967295:Int)))):Nat):Int)) * (IntKind.wrap IntKind.u64 (((BitVec.toNat ((BitVec.ofInt 64 x.2) &&& (BitVec.ofInt 64 (4294967295:Int)))):Nat):Int)))) (4294967296:Int)))) (4294967296:Int)))) + (Int.fdiv (IntKind.wrap IntKind.u64 ((IntKind.wrap IntKind.u64 (((BitVec.toNat ((BitVec.ofInt 64 (IntKind.wrap IntKind.u64 ((IntKind.wrap IntKind.u64 ((Int.fdiv x.1 (4294967296:Int)) * (IntKind.wrap IntKind.u64 (((BitVec.toNat ((BitVec.ofInt 64 x.2) &&& (BitVec.ofInt 64 (4294967295:Int)))):Nat):Int)))) + (Int.fdiv (IntKind.wrap IntKind.u64 ((IntKind.wrap IntKind.u64 (((BitVec.toNat ((BitVec.ofInt 64 x.1) &&& (BitVec.ofInt 64 (4294967295:Int)))):Nat):Int)) * (IntKind.wrap IntKind.u64 (((BitVec.toNat ((BitVec.ofInt 64 x.2) &&& (BitVec.ofInt 64 (4294967295:Int)))):Nat):Int)))) (4294967296:Int))))) &&& (BitVec.ofInt 64 (4294967295:Int)))):Nat):Int)) + (IntKind.wrap IntKind.u64 ((IntKind.wrap IntKind.u64 (((BitVec.toNat ((BitVec.ofInt 64 x.1) &&& (BitVec.ofInt 64 (4294967295:Int)))):Nat):Int)) * (Int.fdiv x.2 (4294967296:Int)))))) (4294967296:Int)))),(IntKind.wrap IntKind.u64 (x.1 * x.2))))
abbrev mul64M_S : FnS := ⟨(.pair (.one (Ty.int IntKind.u64)) (.one (Ty.int IntKind.u64))),(.pair (.one (Ty.int IntKind.u64)) (.one (Ty.int IntKind.u64))),mul64M_pre,mul64M⟩
theorem mul64M_ok : SpecOk Try.prog 67 (fnSpec mul64M_S) := SpecOk.tr mul64M_S mul64M_t (fn := Try.f67) tt_ok sp_mul32M_ok mixed (by kernel_rfl) (ItsOk.nil _ _) (fun x => LpsOk.nil) (fun x => (by kernel_rfl)) fun x Q => (by kernel_rfl)
def sp_mul64M : List (Nat × Ev.Spec) := (67,fnSpec mul64M_S) :: sp_mul32M
theorem sp_mul64M_ok : SpecsOk Try.prog sp_mul64M := SpecsOk.add (fn := Try.f67) (by kernel_rfl) mul64M_ok sp_mul32M_ok
def bmulM (x : I2) : I2 :=
 (letV (mul64M x) fun y =>
 y)
def bmulM_pre (_ : I2) : Prop := True
def bmulM_t (x : I2) : Tr I2 false :=
 (.fn0 mul64M_S x trivial fun y =>
 (.ret y))
abbrev bmulM_S : FnS := ⟨(.pair (.one (Ty.int IntKind.u64)) (.one (Ty.int IntKind.u64))),(.pair (.one (Ty.int IntKind.u64)) (.one (Ty.int IntKind.u64))),bmulM_pre,bmulM⟩
theorem bmulM_ok : SpecOk Try.prog 53 (fnSpec bmulM_S) := SpecOk.tr bmulM_S bmulM_t (fn := Try.f53) tt_ok sp_mul64M_ok mixed (by kernel_rfl) (ItsOk.nil _ _) (fun x => LpsOk.nil) (fun x => (by kernel_rfl)) fun x Q => (by kernel_rfl)
def sp_bmulM : List (Nat × Ev.Spec) := (53,fnSpec bmulM_S) :: sp_mul64M
theorem sp_bmulM_ok : SpecsOk Try.prog sp_bmulM := SpecsOk.add (fn := Try.f53) (by kernel_rfl) bmulM_ok sp_mul64M_ok
def repeatM_l0 (x : ((List Int) × Int)) : LoopD := ⟨[],⟨pvs 48 0 [(7,.v (.one (.full 0))),(8,.v (.one (.i .i64)))],[.row yi 2],0,none,[],[],[1,0],[(.l yi),.i],[]⟩,[⟨(.exit 0),.normal,⟨pvs 48 0 [(7,.v (.one (.full 0)))],[.row yi 2],0,none,[],[],[0],[(.l yi)],[]⟩⟩]⟩
def repeatM_l0_step (x : ((List Int) × Int)) (s : ((List Int) × Int)) : ((List Int) × Int) ⊕ (List Int) :=
 (if (s.2 < (s.1.length:Int)) then
 (letV (copyL s.1 ((Int.toNat s.2) + 0) ((List.length s.1) - (Int.toNat s.2)) (List.take (Int.toNat s.2) s.1)) fun y =>
 (Sum.inl (y,(w64 (s.2 + (((copyN ((List.length s.1) - (Int.toNat s.2)) (List.length (List.take (Int.toNat s.2) s.1))):Nat):Int)))))) else
 (Sum.inr (s.1)))
def repeatM_l0_pre (x : ((List Int) × Int)) (s : ((List Int) × Int)) : Prop :=
 ((s.2 < (s.1.length:Int)) →
 ((((0:Int) ≤ s.2) ∧ (s.2 ≤ (s.1.length:Int))) ∧
 (((0:Int) ≤ s.2) ∧ (s.2 ≤ (s.1.length:Int)))))
def repeatM_l0_t (x : ((List Int) × Int)) (s : ((List Int) × Int)) : Tr (((List Int) × Int) ⊕ (List Int)) true :=
 (.i10 (s.2 < (nL s.1))
 (.og ((decide (z0 ≤ s.2)) && (decide (s.2 ≤ (nL s.1)))) ((z0 ≤ s.2) ∧ (s.2 ≤ (nL s.1))) (fun h => (and_t (decide_eq_true h.1) (decide_eq_true h.2)))
 (.og ((decide (z0 ≤ s.2)) && (decide (s.2 ≤ (nL s.1)))) ((z0 ≤ s.2) ∧ (s.2 ≤ (nL s.1))) (fun h => (and_t (decide_eq_true h.1) (decide_eq_true h.2)))
 (.lt (copyL s.1 ((tN s.2) + 0) ((List.length s.1) - (tN s.2)) (List.take (tN s.2) s.1)) fun y =>
 (.ret (.inl (y,(w64 (s.2 + (((copyN ((List.length s.1) - (tN s.2)) (List.length (List.take (tN s.2) s.1))):Nat):Int)))))))))
 (.ret (.inr (s.1))))
def repeatM (x : ((List Int) × Int)) : (List Int) :=
 (if (x.2 < (0:Int)) then
 default else
 (letV (bmulM ((IntKind.wrap IntKind.u64 (x.1.length:Int)),(IntKind.wrap IntKind.u64 x.2))) fun y =>
 (if (y.1 > (0:Int)) then
 default else
 (if (y.2 > (9223372036854775807:Int)) then
 default else
 (letV (copyL (List.replicate (Int.toNat (w64 y.2)) (0:Int)) 0 (List.length (List.replicate (Int.toNat (w64 y.2)) (0:Int))) x.1) fun y_1 =>
 (letV (run (repeatM_l0_step x) (y_1,(((copyN (List.length (List.replicate (Int.toNat (w64 y.2)) (0:Int))) (List.length x.1)):Nat):Int))) fun r =>
 r))))))
def repeatM_pre (x : ((List Int) × Int)) : Prop :=
 (((x.2 < (0:Int)) →
 False) ∧
 (¬ (x.2 < (0:Int)) →
 (letP (bmulM ((IntKind.wrap IntKind.u64 (x.1.length:Int)),(IntKind.wrap IntKind.u64 x.2))) fun y =>
 (((y.1 > (0:Int)) →
 False) ∧
 (¬ (y.1 > (0:Int)) →
 (((y.2 > (9223372036854775807:Int)) →
 False) ∧
 (¬ (y.2 > (9223372036854775807:Int)) →
 (((((0:Int) ≤ (w64 y.2)) ∧ ((w64 y.2) ≤ (w64 y.2))) ∧ ((Int.toNat (w64 y.2)) < 1099511627776)) ∧
 (letP (copyL (List.replicate (Int.toNat (w64 y.2)) (0:Int)) 0 (List.length (List.replicate (Int.toNat (w64 y.2)) (0:Int))) x.1) fun y_1 =>
 (Term (repeatM_l0_step x) (repeatM_l0_pre x) (y_1,(((copyN (List.length (List.replicate (Int.toNat (w64 y.2)) (0:Int))) (List.length x.1)):Nat):Int))))))))))))
def repeatM_t (x : ((List Int) × Int)) : Tr (List Int) true :=
 (.i11 (x.2 < z0)
 (.og false False False.elim (.ret default))
 (.fn0 bmulM_S ((IntKind.wrap IntKind.u64 (nL x.1)),(IntKind.wrap IntKind.u64 x.2)) trivial fun y =>
 (.i11 (y.1 > z0)
 (.og false False False.elim (.ret default))
 (.i11 (y.2 > (9223372036854775807:Int))
 (.og false False False.elim (.ret default))
 (.og (((decide (z0 ≤ (w64 y.2))) && (decide ((w64 y.2) ≤ (w64 y.2)))) && (decide ((tN (w64 y.2)) < 1099511627776))) (((z0 ≤ (w64 y.2)) ∧ ((w64 y.2) ≤ (w64 y.2))) ∧ ((tN (w64 y.2)) < 1099511627776)) (fun h => (and_t (and_t (decide_eq_true h.1.1) (decide_eq_true h.1.2)) (decide_eq_true h.2)))
 (.lt (copyL (List.replicate (tN (w64 y.2)) z0) 0 (List.length (List.replicate (tN (w64 y.2)) z0)) x.1) fun y_1 =>
 (LoopD.lp (repeatM_l0 x) (repeatM_l0_t x) (y_1,(((copyN (List.length (List.replicate (tN (w64 y.2)) z0)) (List.length x.1)):Nat):Int)) fun r =>
 (.ret r))))))))
abbrev repeatM_S : FnS := ⟨(.pair (.one (Ty.sl yi)) (.one yi)),(.one (Ty.sl yi)),repeatM_pre,repeatM⟩
theorem repeatM_ok : SpecOk Try.prog 39 (fnSpec repeatM_S) := SpecOk.tr repeatM_S repeatM_t (fn := Try.f39) tt_ok sp_bmulM_ok mixed (by kernel_rfl) (ItsOk.nil _ _) (fun x => (LpsOk.tr tt_ok (SpecsOk.ctxI sp_bmulM_ok (ItsOk.nil _ _)) mixed 0 (repeatM_l0 x) (repeatM_l0_t x) LpsOk.nil (by kernel_rfl) fun g s Q => (by kernel_rfl))) (fun x => (by kernel_rfl)) fun x Q => (by kernel_rfl)
def sp_repeatM : List (Nat × Ev.Spec) := (39,fnSpec repeatM_S) :: sp_bmulM
theorem sp_repeatM_ok : SpecsOk Try.prog sp_repeatM := SpecsOk.add (fn := Try.f39) (by kernel_rfl) repeatM_ok sp_bmulM_ok
def indexN_l0 (x : ((List Int) × Int)) : LoopD := ⟨[],⟨pvs 19 0 [(0,.v (.one (.full 0))),(1,.v (.one (.i .i64))),(7,.v (.one (.i .i64))),(8,.v (.one (.i .i64)))],[.row yi 0],0,none,[],[0,1,3],[2],[.i],[.i x.2,.i (x.1.length:Int),.l yi x.1]⟩,[⟨.ret,.ret,⟨pvs 19 0 [(4,.v (.one (.i .i64)))],[],0,none,[],[],[0],[.i],[]⟩⟩,⟨(.exit 0),.normal,⟨pvs 19 0 [],[],0,none,[],[],[],[],[]⟩⟩]⟩
def indexN_l0_step (x : ((List Int) × Int)) (s:Int) : Int ⊕ (Int ⊕ Unit) :=
 (if (s < (x.1.length:Int)) then
 (if ((x.2 == (List.getD x.1 (Int.toNat s) (0:Int))) = true) then
 (Sum.inr (Sum.inl s)) else
 (Sum.inl (w64 (s + (1:Int))))) else
 (Sum.inr (Sum.inr (()))))
def indexN_l0_pre (x : ((List Int) × Int)) (s:Int) : Prop :=
 ((s < (x.1.length:Int)) →
 ((((0:Int) ≤ s) ∧ (s < (x.1.length:Int))) ∧
 (((Int.toNat s) < (List.length x.1)) ∧
 ((Int.toNat s) < (List.length x.1)))))
def indexN_l0_t (x : ((List Int) × Int)) (s:Int) : Tr (Int ⊕ (Int ⊕ Unit)) true :=
 (.i10 (s < (nL x.1))
 (.oI2 s x.1
 (.b00 (x.2 == (gI x.1 s))
 (.ret (.inr (Sum.inl s)))
 (.ret (.inl (w1 s)))))
 (.ret (.inr (Sum.inr (())))))
def indexN (x : ((List Int) × Int)) : Int :=
 (letV (run (indexN_l0_step x) (0:Int)) fun r =>
 (Sum.elim (fun a =>
 a) (fun b =>
 (-1:Int)) r))
def indexN_pre (x : ((List Int) × Int)) : Prop :=
 (Term (indexN_l0_step x) (indexN_l0_pre x) (0:Int))
def indexN_t (x : ((List Int) × Int)) : Tr Int true :=
 (LoopD.lp (indexN_l0 x) (indexN_l0_t x) z0 fun r =>
 (.s00 r (fun a =>
 (.ret a)) (fun b =>
 (.ret (-1:Int)))))
abbrev indexN_S : FnS := ⟨(.pair (.one (Ty.sl yi)) (.one yi)),(.one yi),indexN_pre,indexN⟩
theorem indexN_ok : SpecOk Try.prog 54 (fnSpec indexN_S) := SpecOk.tr indexN_S indexN_t (fn := Try.f54) tt_ok sp_repeatM_ok mixed (by kernel_rfl) (ItsOk.nil _ _) (fun x => (LpsOk.tr tt_ok (SpecsOk.ctxI sp_repeatM_ok (ItsOk.nil _ _)) mixed 0 (indexN_l0 x) (indexN_l0_t x) LpsOk.nil (by kernel_rfl) fun g s Q => (by kernel_rfl))) (fun x => (by kernel_rfl)) fun x Q => (by kernel_rfl)
def sp_indexN : List (Nat × Ev.Spec) := (54,fnSpec indexN_S) :: sp_repeatM
theorem sp_indexN_ok : SpecsOk Try.prog sp_indexN := SpecsOk.add (fn := Try.f54) (by kernel_rfl) indexN_ok sp_repeatM_ok
def containsN (x : ((List Int) × Int)) : Bool :=
 (letV (indexN x) fun y =>
 (decide (y ≥ (0:Int))))
def containsN_pre (x : ((List Int) × Int)) : Prop :=
 (indexN_pre x)
def containsN_t (x : ((List Int) × Int)) : Tr Bool true :=
 (.fn indexN_S x fun y =>
 (.ret (decide (y ≥ z0))))
abbrev containsN_S : FnS := ⟨(.pair (.one (Ty.sl yi)) (.one yi)),(.one Ty.bool),containsN_pre,containsN⟩
theorem containsN_ok : SpecOk Try.prog 40 (fnSpec containsN_S) := SpecOk.tr containsN_S containsN_t (fn := Try.f40) tt_ok sp_indexN_ok mixed (by kernel_rfl) (ItsOk.nil _ _) (fun x => LpsOk.nil) (fun x => (by kernel_rfl)) fun x Q => (by kernel_rfl)
def sp_containsN : List (Nat × Ev.Spec) := (40,fnSpec containsN_S) :: sp_indexN
theorem sp_containsN_ok : SpecsOk Try.prog sp_containsN := SpecsOk.add (fn := Try.f40) (by kernel_rfl) containsN_ok sp_indexN_ok
def parentsT_l0 (x : (List ((I3 × I3) × (Int × (Int × (List Int)))))) : LoopD := ⟨[],⟨pvs 84 0 [(0,.v (.one (.full 0))),(4,.v (.one (.full 1))),(11,.v (.one (.full 0))),(12,.v (.one (.i .i64))),(13,.v (.one (.i .i64)))],[.row (Ty.prod (Ty.prod yy3 yy3) (Ty.prod yi (Ty.prod yi (Ty.sl yi)))) 0,.row yi 2],0,none,[],[0,2],[3,1],[(.l yi),.i],[.i (x.length:Int),.l (Ty.prod (Ty.prod yy3 yy3) (Ty.prod yi (Ty.prod yi (Ty.sl yi)))) x]⟩,[⟨.ret,.ret,⟨pvs 84 0 [(2,.v (.one (.raw))),(3,.v (.one (.b)))],[],0,none,[],[0,1],[],[],[.v (.slice none 0 0),.b false]⟩⟩,⟨(.exit 0),.normal,⟨pvs 84 0 [(0,.v (.one (.full 0))),(4,.v (.one (.full 1)))],[.row (Ty.prod (Ty.prod yy3 yy3) (Ty.prod yi (Ty.prod yi (Ty.sl yi)))) 0,.row yi 2],0,none,[],[0],[1],[(.l yi)],[.l (Ty.prod (Ty.prod yy3 yy3) (Ty.prod yi (Ty.prod yi (Ty.sl yi)))) x]⟩⟩]⟩
def parentsT_l0_step (x : (List ((I3 × I3) × (Int × (Int × (List Int)))))) (s : ((List Int) × Int)) : ((List Int) × Int) ⊕ (Unit ⊕ (List Int)) :=
 (if (s.2 < (x.length:Int)) then
 (letV (leafN ((List.getD x (Int.toNat s.2) ((((0:Int),((0:Int),(0:Int))),((0:Int),((0:Int),(0:Int)))),((0:Int),((0:Int),[])))),s.2)) fun y =>
 (if (y = true) then
 (Sum.inl (s.1,(w64 (s.2 + (1:Int))))) else
 (if (((List.getD x (Int.toNat s.2) ((((0:Int),((0:Int),(0:Int))),((0:Int),((0:Int),(0:Int)))),((0:Int),((0:Int),[])))).2.2.2.length:Int) > (0:Int)) then
 (Sum.inr (Sum.inl ())) else
 (if (((List.getD x (Int.toNat s.2) ((((0:Int),((0:Int),(0:Int))),((0:Int),((0:Int),(0:Int)))),((0:Int),((0:Int),[])))).2.1 != (w64 (s.2 + (1:Int)))) = true) then
 (Sum.inr (Sum.inl ())) else
 (if ((List.getD x (Int.toNat s.2) ((((0:Int),((0:Int),(0:Int))),((0:Int),((0:Int),(0:Int)))),((0:Int),((0:Int),[])))).2.2.1 ≤ (List.getD x (Int.toNat s.2) ((((0:Int),((0:Int),(0:Int))),((0:Int),((0:Int),(0:Int)))),((0:Int),((0:Int),[])))).2.1) then
 (Sum.inr (Sum.inl ())) else
 (if ((List.getD x (Int.toNat s.2) ((((0:Int),((0:Int),(0:Int))),((0:Int),((0:Int),(0:Int)))),((0:Int),((0:Int),[])))).2.2.1 ≥ (x.length:Int)) then
 (Sum.inr (Sum.inl ())) else
 (if ((List.getD s.1 (Int.toNat (List.getD x (Int.toNat s.2) ((((0:Int),((0:Int),(0:Int))),((0:Int),((0:Int),(0:Int)))),((0:Int),((0:Int),[])))).2.1) (0:Int)) ≥ (0:Int)) then
 (Sum.inr (Sum.inl ())) else
 (if ((List.getD s.1 (Int.toNat (List.getD x (Int.toNat s.2) ((((0:Int),((0:Int),(0:Int))),((0:Int),((0:Int),(0:Int)))),((0:Int),((0:Int),[])))).2.2.1) (0:Int)) ≥ (0:Int)) then
 (Sum.inr (Sum.inl ())) else
 (letV (List.set s.1 (Int.toNat (List.getD x (Int.toNat s.2) ((((0:Int),((0:Int),(0:Int))),((0:Int),((0:Int),(0:Int)))),((0:Int),((0:Int),[])))).2.1) s.2) fun y_1 =>
 (letV (List.set y_1 (Int.toNat (List.getD x (Int.toNat s.2) ((((0:Int),((0:Int),(0:Int))),((0:Int),((0:Int),(0:Int)))),((0:Int),((0:Int),[])))).2.2.1) s.2) fun y_2 =>
 (Sum.inl (y_2,(w64 (s.2 + (1:Int))))))))))))))) else
 (Sum.inr (Sum.inr (s.1))))
def parentsT_l0_pre (x : (List ((I3 × I3) × (Int × (Int × (List Int)))))) (s : ((List Int) × Int)) : Prop :=
 ((s.2 < (x.length:Int)) →
 ((((0:Int) ≤ s.2) ∧ (s.2 < (x.length:Int))) ∧
 (((Int.toNat s.2) < (List.length x)) ∧
 (((Int.toNat s.2) < (List.length x)) ∧
 (letP (leafN ((List.getD x (Int.toNat s.2) ((((0:Int),((0:Int),(0:Int))),((0:Int),((0:Int),(0:Int)))),((0:Int),((0:Int),[])))),s.2)) fun y =>
 (¬ (y = true) →
 (¬ (((List.getD x (Int.toNat s.2) ((((0:Int),((0:Int),(0:Int))),((0:Int),((0:Int),(0:Int)))),((0:Int),((0:Int),[])))).2.2.2.length:Int) > (0:Int)) →
 (¬ (((List.getD x (Int.toNat s.2) ((((0:Int),((0:Int),(0:Int))),((0:Int),((0:Int),(0:Int)))),((0:Int),((0:Int),[])))).2.1 != (w64 (s.2 + (1:Int)))) = true) →
 (¬ ((List.getD x (Int.toNat s.2) ((((0:Int),((0:Int),(0:Int))),((0:Int),((0:Int),(0:Int)))),((0:Int),((0:Int),[])))).2.2.1 ≤ (List.getD x (Int.toNat s.2) ((((0:Int),((0:Int),(0:Int))),((0:Int),((0:Int),(0:Int)))),((0:Int),((0:Int),[])))).2.1) →
 (¬ ((List.getD x (Int.toNat s.2) ((((0:Int),((0:Int),(0:Int))),((0:Int),((0:Int),(0:Int)))),((0:Int),((0:Int),[])))).2.2.1 ≥ (x.length:Int)) →
 ((((0:Int) ≤ (List.getD x (Int.toNat s.2) ((((0:Int),((0:Int),(0:Int))),((0:Int),((0:Int),(0:Int)))),((0:Int),((0:Int),[])))).2.1) ∧ ((List.getD x (Int.toNat s.2) ((((0:Int),((0:Int),(0:Int))),((0:Int),((0:Int),(0:Int)))),((0:Int),((0:Int),[])))).2.1 < (s.1.length:Int))) ∧
 (((Int.toNat (List.getD x (Int.toNat s.2) ((((0:Int),((0:Int),(0:Int))),((0:Int),((0:Int),(0:Int)))),((0:Int),((0:Int),[])))).2.1) < (List.length s.1)) ∧
 (((Int.toNat (List.getD x (Int.toNat s.2) ((((0:Int),((0:Int),(0:Int))),((0:Int),((0:Int),(0:Int)))),((0:Int),((0:Int),[])))).2.1) < (List.length s.1)) ∧
 (¬ ((List.getD s.1 (Int.toNat (List.getD x (Int.toNat s.2) ((((0:Int),((0:Int),(0:Int))),((0:Int),((0:Int),(0:Int)))),((0:Int),((0:Int),[])))).2.1) (0:Int)) ≥ (0:Int)) →
 ((((0:Int) ≤ (List.getD x (Int.toNat s.2) ((((0:Int),((0:Int),(0:Int))),((0:Int),((0:Int),(0:Int)))),((0:Int),((0:Int),[])))).2.2.1) ∧ ((List.getD x (Int.toNat s.2) ((((0:Int),((0:Int),(0:Int))),((0:Int),((0:Int),(0:Int)))),((0:Int),((0:Int),[])))).2.2.1 < (s.1.length:Int))) ∧
 (((Int.toNat (List.getD x (Int.toNat s.2) ((((0:Int),((0:Int),(0:Int))),((0:Int),((0:Int),(0:Int)))),((0:Int),((0:Int),[])))).2.2.1) < (List.length s.1)) ∧
 (((Int.toNat (List.getD x (Int.toNat s.2) ((((0:Int),((0:Int),(0:Int))),((0:Int),((0:Int),(0:Int)))),((0:Int),((0:Int),[])))).2.2.1) < (List.length s.1)) ∧
 (¬ ((List.getD s.1 (Int.toNat (List.getD x (Int.toNat s.2) ((((0:Int),((0:Int),(0:Int))),((0:Int),((0:Int),(0:Int)))),((0:Int),((0:Int),[])))).2.2.1) (0:Int)) ≥ (0:Int)) →
 ((((0:Int) ≤ (List.getD x (Int.toNat s.2) ((((0:Int),((0:Int),(0:Int))),((0:Int),((0:Int),(0:Int)))),((0:Int),((0:Int),[])))).2.1) ∧ ((List.getD x (Int.toNat s.2) ((((0:Int),((0:Int),(0:Int))),((0:Int),((0:Int),(0:Int)))),((0:Int),((0:Int),[])))).2.1 < (s.1.length:Int))) ∧
 (((Int.toNat (List.getD x (Int.toNat s.2) ((((0:Int),((0:Int),(0:Int))),((0:Int),((0:Int),(0:Int)))),((0:Int),((0:Int),[])))).2.1) < (List.length s.1)) ∧
 (((Int.toNat (List.getD x (Int.toNat s.2) ((((0:Int),((0:Int),(0:Int))),((0:Int),((0:Int),(0:Int)))),((0:Int),((0:Int),[])))).2.1) < (List.length s.1)) ∧
 (letP (List.set s.1 (Int.toNat (List.getD x (Int.toNat s.2) ((((0:Int),((0:Int),(0:Int))),((0:Int),((0:Int),(0:Int)))),((0:Int),((0:Int),[])))).2.1) s.2) fun y_1 =>
 ((((0:Int) ≤ (List.getD x (Int.toNat s.2) ((((0:Int),((0:Int),(0:Int))),((0:Int),((0:Int),(0:Int)))),((0:Int),((0:Int),[])))).2.2.1) ∧ ((List.getD x (Int.toNat s.2) ((((0:Int),((0:Int),(0:Int))),((0:Int),((0:Int),(0:Int)))),((0:Int),((0:Int),[])))).2.2.1 < (y_1.length:Int))) ∧
 (((Int.toNat (List.getD x (Int.toNat s.2) ((((0:Int),((0:Int),(0:Int))),((0:Int),((0:Int),(0:Int)))),((0:Int),((0:Int),[])))).2.2.1) < (List.length y_1)) ∧
 ((Int.toNat (List.getD x (Int.toNat s.2) ((((0:Int),((0:Int),(0:Int))),((0:Int),((0:Int),(0:Int)))),((0:Int),((0:Int),[])))).2.2.1) < (List.length y_1))))))))))))))))))))))))))
def parentsT_l0_t (x : (List ((I3 × I3) × (Int × (Int × (List Int)))))) (s : ((List Int) × Int)) : Tr (((List Int) × Int) ⊕ (Unit ⊕ (List Int))) true :=
 (.i10 (s.2 < (nL x))
 (.oI2 s.2 x
 (.fn0 leafN_S ((gT x s.2 ((zz3,zz3),(z0,(z0,[])))),s.2) trivial fun y =>
 (.b01 y
 (.ret (.inl (s.1,(w1 s.2))))
 (.i01 ((nL (gT x s.2 ((zz3,zz3),(z0,(z0,[])))).2.2.2) > z0)
 (.ret (.inr (Sum.inl ())))
 (.b01 ((gT x s.2 ((zz3,zz3),(z0,(z0,[])))).2.1 != (w1 s.2))
 (.ret (.inr (Sum.inl ())))
 (.i01 ((gT x s.2 ((zz3,zz3),(z0,(z0,[])))).2.2.1 ≤ (gT x s.2 ((zz3,zz3),(z0,(z0,[])))).2.1)
 (.ret (.inr (Sum.inl ())))
 (.i01 ((gT x s.2 ((zz3,zz3),(z0,(z0,[])))).2.2.1 ≥ (nL x))
 (.ret (.inr (Sum.inl ())))
 (.oI2 (gT x s.2 ((zz3,zz3),(z0,(z0,[])))).2.1 s.1
 (.i01 ((gI s.1 (gT x s.2 ((zz3,zz3),(z0,(z0,[])))).2.1) ≥ z0)
 (.ret (.inr (Sum.inl ())))
 (.oI2 (gT x s.2 ((zz3,zz3),(z0,(z0,[])))).2.2.1 s.1
 (.i01 ((gI s.1 (gT x s.2 ((zz3,zz3),(z0,(z0,[])))).2.2.1) ≥ z0)
 (.ret (.inr (Sum.inl ())))
 (.oI2 (gT x s.2 ((zz3,zz3),(z0,(z0,[])))).2.1 s.1
 (.lt (List.set s.1 (tN (gT x s.2 ((zz3,zz3),(z0,(z0,[])))).2.1) s.2) fun y_1 =>
 (.oI2 (gT x s.2 ((zz3,zz3),(z0,(z0,[])))).2.2.1 y_1
 (.lt (List.set y_1 (tN (gT x s.2 ((zz3,zz3),(z0,(z0,[])))).2.2.1) s.2) fun y_2 =>
 (.ret (.inl (y_2,(w1 s.2)))))))))))))))))))
 (.ret (.inr (Sum.inr (s.1)))))
def parentsT (x : (List ((I3 × I3) × (Int × (Int × (List Int)))))) : ((List Int) × Bool) :=
 (letV (repeatM ([(-1:Int)],(x.length:Int))) fun y =>
 (letV (run (parentsT_l0_step x) (y,(0:Int))) fun r =>
 (Sum.elim (fun a =>
 ([],false)) (fun b =>
 (if ((x.length:Int) > (0:Int)) then
 (letV (containsN ((List.drop 1 b),(-1:Int))) fun y_1 =>
 (b,(!y_1))) else
 (b,false))) r)))
def parentsT_pre (x : (List ((I3 × I3) × (Int × (Int × (List Int)))))) : Prop :=
 ((repeatM_pre ([(-1:Int)],(x.length:Int))) ∧
 letP (repeatM ([(-1:Int)],(x.length:Int))) fun y =>
 (Term (parentsT_l0_step x) (parentsT_l0_pre x) (y,(0:Int)) ∧
 letP (run (parentsT_l0_step x) (y,(0:Int))) fun r =>
 (cS r (fun a =>
 True) (fun b =>
 (((x.length:Int) > (0:Int)) →
 (((1:Int) ≤ (b.length:Int)) ∧
 (containsN_pre ((List.drop 1 b),(-1:Int)))))))))
def parentsT_t (x : (List ((I3 × I3) × (Int × (Int × (List Int)))))) : Tr ((List Int) × Bool) true :=
 (.fn repeatM_S ([(-1:Int)],(nL x)) fun y =>
 (LoopD.lp (parentsT_l0 x) (parentsT_l0_t x) (y,z0) fun r =>
 (.s01 r (fun a =>
 (.ret ([],false))) (fun b =>
 (.i10 ((nL x) > z0)
 (.og (true && (decide (z1 ≤ (nL b)))) (z1 ≤ (nL b)) (fun h => (and_t rfl (decide_eq_true h)))
 (.fn containsN_S ((List.drop 1 b),(-1:Int)) fun y_1 =>
 (.ret (b,(!y_1)))))
 (.ret (b,false)))))))
abbrev parentsT_S : FnS := ⟨(.one (Ty.sl (Ty.prod (Ty.prod yy3 yy3) (Ty.prod yi (Ty.prod yi (Ty.sl yi)))))),(.pair (.one (Ty.sl yi)) (.one Ty.bool)),parentsT_pre,parentsT⟩
theorem parentsT_ok : SpecOk Try.prog 22 (fnSpec parentsT_S) := SpecOk.tr parentsT_S parentsT_t (fn := Try.f22) tt_ok sp_containsN_ok mixed (by kernel_rfl) (ItsOk.nil _ _) (fun x => (LpsOk.tr tt_ok (SpecsOk.ctxI sp_containsN_ok (ItsOk.nil _ _)) mixed 0 (parentsT_l0 x) (parentsT_l0_t x) LpsOk.nil (by kernel_rfl) fun g s Q => (by kernel_rfl))) (fun x => (by kernel_rfl)) fun x Q => (by kernel_rfl)
def sp_parentsT : List (Nat × Ev.Spec) := (22,fnSpec parentsT_S) :: sp_containsN
theorem sp_parentsT_ok : SpecsOk Try.prog sp_parentsT := SpecsOk.add (fn := Try.f22) (by kernel_rfl) parentsT_ok sp_containsN_ok
def indexB_l0 (x : ((List Bool) × Bool)) : LoopD := ⟨[],⟨pvs 19 0 [(0,.v (.one (.full 0))),(1,.v (.one (.b))),(7,.v (.one (.i .i64))),(8,.v (.one (.i .i64)))],[.row Ty.bool 0],0,none,[],[0,1,3],[2],[.i],[.b x.2,.i (x.1.length:Int),.l Ty.bool x.1]⟩,[⟨.ret,.ret,⟨pvs 19 0 [(4,.v (.one (.i .i64)))],[],0,none,[],[],[0],[.i],[]⟩⟩,⟨(.exit 0),.normal,⟨pvs 19 0 [],[],0,none,[],[],[],[],[]⟩⟩]⟩
def indexB_l0_step (x : ((List Bool) × Bool)) (s:Int) : Int ⊕ (Int ⊕ Unit) :=
 (if (s < (x.1.length:Int)) then
 (if ((x.2 == (List.getD x.1 (Int.toNat s) false)) = true) then
 (Sum.inr (Sum.inl s)) else
 (Sum.inl (w64 (s + (1:Int))))) else
 (Sum.inr (Sum.inr (()))))
def indexB_l0_pre (x : ((List Bool) × Bool)) (s:Int) : Prop :=
 ((s < (x.1.length:Int)) →
 ((((0:Int) ≤ s) ∧ (s < (x.1.length:Int))) ∧
 (((Int.toNat s) < (List.length x.1)) ∧
 ((Int.toNat s) < (List.length x.1)))))
def indexB_l0_t (x : ((List Bool) × Bool)) (s:Int) : Tr (Int ⊕ (Int ⊕ Unit)) true :=
 (.i10 (s < (nL x.1))
 (.oI2 s x.1
 (.b00 (x.2 == (gT x.1 s false))
 (.ret (.inr (Sum.inl s)))
 (.ret (.inl (w1 s)))))
 (.ret (.inr (Sum.inr (())))))
def indexB (x : ((List Bool) × Bool)) : Int :=
 (letV (run (indexB_l0_step x) (0:Int)) fun r =>
 (Sum.elim (fun a =>
 a) (fun b =>
 (-1:Int)) r))
def indexB_pre (x : ((List Bool) × Bool)) : Prop :=
 (Term (indexB_l0_step x) (indexB_l0_pre x) (0:Int))
def indexB_t (x : ((List Bool) × Bool)) : Tr Int true :=
 (LoopD.lp (indexB_l0 x) (indexB_l0_t x) z0 fun r =>
 (.s00 r (fun a =>
 (.ret a)) (fun b =>
 (.ret (-1:Int)))))
abbrev indexB_S : FnS := ⟨(.pair (.one (Ty.sl Ty.bool)) (.one Ty.bool)),(.one yi),indexB_pre,indexB⟩
theorem indexB_ok : SpecOk Try.prog 41 (fnSpec indexB_S) := SpecOk.tr indexB_S indexB_t (fn := Try.f41) tt_ok sp_parentsT_ok mixed (by kernel_rfl) (ItsOk.nil _ _) (fun x => (LpsOk.tr tt_ok (SpecsOk.ctxI sp_parentsT_ok (ItsOk.nil _ _)) mixed 0 (indexB_l0 x) (indexB_l0_t x) LpsOk.nil (by kernel_rfl) fun g s Q => (by kernel_rfl))) (fun x => (by kernel_rfl)) fun x Q => (by kernel_rfl)
def sp_indexB : List (Nat × Ev.Spec) := (41,fnSpec indexB_S) :: sp_parentsT
theorem sp_indexB_ok : SpecsOk Try.prog sp_indexB := SpecsOk.add (fn := Try.f41) (by kernel_rfl) indexB_ok sp_parentsT_ok
def containsB (x : ((List Bool) × Bool)) : Bool :=
 (letV (indexB x) fun y =>
 (decide (y ≥ (0:Int))))
def containsB_pre (x : ((List Bool) × Bool)) : Prop :=
 (indexB_pre x)
def containsB_t (x : ((List Bool) × Bool)) : Tr Bool true :=
 (.fn indexB_S x fun y =>
 (.ret (decide (y ≥ z0))))
abbrev containsB_S : FnS := ⟨(.pair (.one (Ty.sl Ty.bool)) (.one Ty.bool)),(.one Ty.bool),containsB_pre,containsB⟩
theorem containsB_ok : SpecOk Try.prog 24 (fnSpec containsB_S) := SpecOk.tr containsB_S containsB_t (fn := Try.f24) tt_ok sp_indexB_ok mixed (by kernel_rfl) (ItsOk.nil _ _) (fun x => LpsOk.nil) (fun x => (by kernel_rfl)) fun x Q => (by kernel_rfl)
def sp_containsB : List (Nat × Ev.Spec) := (24,fnSpec containsB_S) :: sp_indexB
theorem sp_containsB_ok : SpecsOk Try.prog sp_containsB := SpecsOk.add (fn := Try.f24) (by kernel_rfl) containsB_ok sp_indexB_ok
def isT_l4 (x : ((List ((I3 × I3) × (Int × (Int × (List Int))))) × (List I9))) : LoopD := ⟨[],⟨pvs 78 0 [(0,.v (.one (.full 0))),(1,.v (.one (.full 1))),(5,.v (.one (.full 2))),(7,.v (.one (.full 3))),(8,.v (.one (.i .i64))),(11,.v (.one (.i .i64))),(12,.v (.one (.i .i64))),(23,.v (.one (.full 0))),(24,.v (.one (.i .i64))),(25,.v (.one (.i .i64))),(31,.v (.one (.full 4))),(32,.v (.one (.i .i64))),(33,.v (.one (.i .i64)))],[.row (Ty.prod (Ty.prod yy3 yy3) (Ty.prod yi (Ty.prod yi (Ty.sl yi)))) 0,.row yy9 0,.row yi 2,.row Ty.bool 2,.row yi 0],0,none,[],[3,7,8],[9,10,0,1,2,4,11,5,6],[(.l yi),(.l Ty.bool),.i,.i,.i,.i,(.l yi),.i,.i],[.i (x.1.length:Int),.l (Ty.prod (Ty.prod yy3 yy3) (Ty.prod yi (Ty.prod yi (Ty.sl yi)))) x.1,.l yy9 x.2]⟩,[⟨.ret,.ret,⟨pvs 78 0 [(4,.v (.one (.b)))],[],0,none,[],[0],[],[],[.b false]⟩⟩,⟨(.exit 4),.normal,⟨pvs 78 0 [(0,.v (.one (.full 0))),(1,.v (.one (.full 1))),(5,.v (.one (.full 2))),(7,.v (.one (.full 3))),(8,.v (.one (.i .i64))),(23,.v (.one (.full 0))),(24,.v (.one (.i .i64))),(25,.v (.one (.i .i64))),(31,.v (.one (.full 4))),(32,.v (.one (.i .i64))),(33,.v (.one (.i .i64)))],[.row (Ty.prod (Ty.prod yy3 yy3) (Ty.prod yi (Ty.prod yi (Ty.sl yi)))) 0,.row yy9 0,.row yi 2,.row Ty.bool 2,.row yi 0],0,none,[],[1,5,6],[7,8,0,2,9,3,4],[(.l yi),(.l Ty.bool),.i,.i,(.l yi),.i,.i],[.i (x.1.length:Int),.l (Ty.prod (Ty.prod yy3 yy3) (Ty.prod yi (Ty.prod yi (Ty.sl yi)))) x.1,.l yy9 x.2]⟩⟩]⟩
def isT_l4_step (x : ((List ((I3 × I3) × (Int × (Int × (List Int))))) × (List I9))) (s : ((List Int) × ((List Bool) × (Int × (Int × (Int × (Int × ((List Int) × I2)))))))) : ((List Int) × ((List Bool) × (Int × (Int × (Int × (Int × ((List Int) × I2))))))) ⊕ (Unit ⊕ ((List Int) × ((List Bool) × (Int × (Int × ((List Int) × I2)))))) :=
 (if (s.2.2.2.2.1 ≥ (0:Int)) then
 (letV (hasN (((List.getD x.1 (Int.toNat s.2.2.2.2.1) ((((0:Int),((0:Int),(0:Int))),((0:Int),((0:Int),(0:Int)))),((0:Int),((0:Int),[])))),s.2.2.2.2.1),(List.getD x.2 (Int.toNat s.2.2.2.1) (((0:Int),((0:Int),(0:Int))),(((0:Int),((0:Int),(0:Int))),((0:Int),((0:Int),(0:Int)))))))) fun y =>
 (if ((!y) = true) then
 (Sum.inr (Sum.inl ())) else
 (Sum.inl (s.1,(s.2.1,(s.2.2.1,(s.2.2.2.1,((List.getD s.1 (Int.toNat s.2.2.2.2.1) (0:Int)),(s.2.2.2.2.2.1,(s.2.2.2.2.2.2.1,(s.2.2.2.2.2.2.2.1,s.2.2.2.2.2.2.2.2))))))))))) else
 (Sum.inr (Sum.inr ((s.1,(s.2.1,(s.2.2.1,(s.2.2.2.2.2.1,(s.2.2.2.2.2.2.1,(s.2.2.2.2.2.2.2.1,s.2.2.2.2.2.2.2.2))))))))))
def isT_l4_pre (x : ((List ((I3 × I3) × (Int × (Int × (List Int))))) × (List I9))) (s : ((List Int) × ((List Bool) × (Int × (Int × (Int × (Int × ((List Int) × I2)))))))) : Prop :=
 ((s.2.2.2.2.1 ≥ (0:Int)) →
 ((((0:Int) ≤ s.2.2.2.2.1) ∧ (s.2.2.2.2.1 < (x.1.length:Int))) ∧
 (((Int.toNat s.2.2.2.2.1) < (List.length x.1)) ∧
 (((Int.toNat s.2.2.2.2.1) < (List.length x.1)) ∧
 ((((0:Int) ≤ s.2.2.2.1) ∧ (s.2.2.2.1 < (x.2.length:Int))) ∧
 (((Int.toNat s.2.2.2.1) < (List.length x.2)) ∧
 (((Int.toNat s.2.2.2.1) < (List.length x.2)) ∧
 ((hasN_pre (((List.getD x.1 (Int.toNat s.2.2.2.2.1) ((((0:Int),((0:Int),(0:Int))),((0:Int),((0:Int),(0:Int)))),((0:Int),((0:Int),[])))),s.2.2.2.2.1),(List.getD x.2 (Int.toNat s.2.2.2.1) (((0:Int),((0:Int),(0:Int))),(((0:Int),((0:Int),(0:Int))),((0:Int),((0:Int),(0:Int)))))))) ∧
 letP (hasN (((List.getD x.1 (Int.toNat s.2.2.2.2.1) ((((0:Int),((0:Int),(0:Int))),((0:Int),((0:Int),(0:Int)))),((0:Int),((0:Int),[])))),s.2.2.2.2.1),(List.getD x.2 (Int.toNat s.2.2.2.1) (((0:Int),((0:Int),(0:Int))),(((0:Int),((0:Int),(0:Int))),((0:Int),((0:Int),(0:Int)))))))) fun y =>
 (¬ ((!y) = true) →
 ((((0:Int) ≤ s.2.2.2.2.1) ∧ (s.2.2.2.2.1 < (s.1.length:Int))) ∧
 (((Int.toNat s.2.2.2.2.1) < (List.length s.1)) ∧
 ((Int.toNat s.2.2.2.2.1) < (List.length s.1)))))))))))))
def isT_l4_t (x : ((List ((I3 × I3) × (Int × (Int × (List Int))))) × (List I9))) (s : ((List Int) × ((List Bool) × (Int × (Int × (Int × (Int × ((List Int) × I2)))))))) : Tr (((List Int) × ((List Bool) × (Int × (Int × (Int × (Int × ((List Int) × I2))))))) ⊕ (Unit ⊕ ((List Int) × ((List Bool) × (Int × (Int × ((List Int) × I2))))))) true :=
 (.i10 (s.2.2.2.2.1 ≥ z0)
 (.oI2 s.2.2.2.2.1 x.1
 (.oI2 s.2.2.2.1 x.2
 (.fn hasN_S (((gT x.1 s.2.2.2.2.1 ((zz3,zz3),(z0,(z0,[])))),s.2.2.2.2.1),(gT x.2 s.2.2.2.1 zz9)) fun y =>
 (.b01 (!y)
 (.ret (.inr (Sum.inl ())))
 (.oI2 s.2.2.2.2.1 s.1
 (.ret (.inl (s.1,(s.2.1,(s.2.2.1,(s.2.2.2.1,((gI s.1 s.2.2.2.2.1),(s.2.2.2.2.2.1,(s.2.2.2.2.2.2.1,(s.2.2.2.2.2.2.2.1,s.2.2.2.2.2.2.2.2)))))))))))))))
 (.ret (.inr (Sum.inr ((s.1,(s.2.1,(s.2.2.1,(s.2.2.2.2.2.1,(s.2.2.2.2.2.2.1,(s.2.2.2.2.2.2.2.1,s.2.2.2.2.2.2.2.2)))))))))))
def isT_l2 (x : ((List ((I3 × I3) × (Int × (Int × (List Int))))) × (List I9))) : LoopD := ⟨[],⟨pvs 78 0 [(0,.v (.one (.full 0))),(1,.v (.one (.full 1))),(5,.v (.one (.full 2))),(7,.v (.one (.full 3))),(8,.v (.one (.i .i64))),(23,.v (.one (.full 0))),(24,.v (.one (.i .i64))),(25,.v (.one (.i .i64))),(31,.v (.one (.full 4))),(32,.v (.one (.i .i64))),(33,.v (.one (.i .i64)))],[.row (Ty.prod (Ty.prod yy3 yy3) (Ty.prod yi (Ty.prod yi (Ty.sl yi)))) 0,.row yy9 0,.row yi 2,.row Ty.bool 2,.row yi 0],0,none,[],[1,5,6],[7,8,0,2,9,3,4],[(.l yi),(.l Ty.bool),.i,.i,(.l yi),.i,.i],[.i (x.1.length:Int),.l (Ty.prod (Ty.prod yy3 yy3) (Ty.prod yi (Ty.prod yi (Ty.sl yi)))) x.1,.l yy9 x.2]⟩,[⟨.ret,.ret,⟨pvs 78 0 [(4,.v (.one (.b)))],[],0,none,[],[0],[],[],[.b false]⟩⟩,⟨(.exit 2),.normal,⟨pvs 78 0 [(0,.v (.one (.full 0))),(1,.v (.one (.full 1))),(5,.v (.one (.full 2))),(7,.v (.one (.full 3))),(23,.v (.one (.full 0))),(24,.v (.one (.i .i64))),(25,.v (.one (.i .i64)))],[.row (Ty.prod (Ty.prod yy3 yy3) (Ty.prod yi (Ty.prod yi (Ty.sl yi)))) 0,.row yy9 0,.row yi 2,.row Ty.bool 2],0,none,[],[0,2,3],[4,5,1],[(.l yi),(.l Ty.bool),.i],[.i (x.1.length:Int),.l (Ty.prod (Ty.prod yy3 yy3) (Ty.prod yi (Ty.prod yi (Ty.sl yi)))) x.1,.l yy9 x.2]⟩⟩]⟩
def isT_l2_step (x : ((List ((I3 × I3) × (Int × (Int × (List Int))))) × (List I9))) (s : ((List Int) × ((List Bool) × (Int × (Int × ((List Int) × I2)))))) : ((List Int) × ((List Bool) × (Int × (Int × ((List Int) × I2))))) ⊕ (Unit ⊕ ((List Int) × ((List Bool) × Int))) :=
 (if (s.2.2.2.2.2.2 < s.2.2.2.2.2.1) then
 (if ((List.getD s.2.2.2.2.1 (Int.toNat s.2.2.2.2.2.2) (0:Int)) < (0:Int)) then
 (Sum.inr (Sum.inl ())) else
 (if ((List.getD s.2.2.2.2.1 (Int.toNat s.2.2.2.2.2.2) (0:Int)) ≥ (x.2.length:Int)) then
 (Sum.inr (Sum.inl ())) else
 (if ((List.getD s.2.1 (Int.toNat (List.getD s.2.2.2.2.1 (Int.toNat s.2.2.2.2.2.2) (0:Int))) false) = true) then
 (Sum.inr (Sum.inl ())) else
 (letV (List.set s.2.1 (Int.toNat (List.getD s.2.2.2.2.1 (Int.toNat s.2.2.2.2.2.2) (0:Int))) true) fun y =>
 (letV (run (isT_l4_step x) (s.1,(y,(s.2.2.1,((List.getD s.2.2.2.2.1 (Int.toNat s.2.2.2.2.2.2) (0:Int)),(s.2.2.1,(s.2.2.2.1,(s.2.2.2.2.1,(s.2.2.2.2.2.1,s.2.2.2.2.2.2))))))))) fun r =>
 (Sum.elim (fun a =>
 (Sum.inr (Sum.inl ()))) (fun b =>
 (Sum.inl (b.1,(b.2.1,(b.2.2.1,(b.2.2.2.1,(b.2.2.2.2.1,(b.2.2.2.2.2.1,(w64 (b.2.2.2.2.2.2 + (1:Int))))))))))) r)))))) else
 (Sum.inr (Sum.inr ((s.1,(s.2.1,s.2.2.2.1))))))
def isT_l2_pre (x : ((List ((I3 × I3) × (Int × (Int × (List Int))))) × (List I9))) (s : ((List Int) × ((List Bool) × (Int × (Int × ((List Int) × I2)))))) : Prop :=
 ((s.2.2.2.2.2.2 < s.2.2.2.2.2.1) →
 ((((0:Int) ≤ s.2.2.2.2.2.2) ∧ (s.2.2.2.2.2.2 < (s.2.2.2.2.1.length:Int))) ∧
 (((Int.toNat s.2.2.2.2.2.2) < (List.length s.2.2.2.2.1)) ∧
 (((Int.toNat s.2.2.2.2.2.2) < (List.length s.2.2.2.2.1)) ∧
 (¬ ((List.getD s.2.2.2.2.1 (Int.toNat s.2.2.2.2.2.2) (0:Int)) < (0:Int)) →
 (¬ ((List.getD s.2.2.2.2.1 (Int.toNat s.2.2.2.2.2.2) (0:Int)) ≥ (x.2.length:Int)) →
 ((((0:Int) ≤ (List.getD s.2.2.2.2.1 (Int.toNat s.2.2.2.2.2.2) (0:Int))) ∧ ((List.getD s.2.2.2.2.1 (Int.toNat s.2.2.2.2.2.2) (0:Int)) < (s.2.1.length:Int))) ∧
 (((Int.toNat (List.getD s.2.2.2.2.1 (Int.toNat s.2.2.2.2.2.2) (0:Int))) < (List.length s.2.1)) ∧
 (((Int.toNat (List.getD s.2.2.2.2.1 (Int.toNat s.2.2.2.2.2.2) (0:Int))) < (List.length s.2.1)) ∧
 (¬ ((List.getD s.2.1 (Int.toNat (List.getD s.2.2.2.2.1 (Int.toNat s.2.2.2.2.2.2) (0:Int))) false) = true) →
 ((((0:Int) ≤ (List.getD s.2.2.2.2.1 (Int.toNat s.2.2.2.2.2.2) (0:Int))) ∧ ((List.getD s.2.2.2.2.1 (Int.toNat s.2.2.2.2.2.2) (0:Int)) < (s.2.1.length:Int))) ∧
 (((Int.toNat (List.getD s.2.2.2.2.1 (Int.toNat s.2.2.2.2.2.2) (0:Int))) < (List.length s.2.1)) ∧
 (((Int.toNat (List.getD s.2.2.2.2.1 (Int.toNat s.2.2.2.2.2.2) (0:Int))) < (List.length s.2.1)) ∧
 (letP (List.set s.2.1 (Int.toNat (List.getD s.2.2.2.2.1 (Int.toNat s.2.2.2.2.2.2) (0:Int))) true) fun y =>
 (Term (isT_l4_step x) (isT_l4_pre x) (s.1,(y,(s.2.2.1,((List.getD s.2.2.2.2.1 (Int.toNat s.2.2.2.2.2.2) (0:Int)),(s.2.2.1,(s.2.2.2.1,(s.2.2.2.2.1,(s.2.2.2.2.2.1,s.2.2.2.2.2.2)))))))))))))))))))))))
def isT_l2_t (x : ((List ((I3 × I3) × (Int × (Int × (List Int))))) × (List I9))) (s : ((List Int) × ((List Bool) × (Int × (Int × ((List Int) × I2)))))) : Tr (((List Int) × ((List Bool) × (Int × (Int × ((List Int) × I2))))) ⊕ (Unit ⊕ ((List Int) × ((List Bool) × Int)))) true :=
 (.i10 (s.2.2.2.2.2.2 < s.2.2.2.2.2.1)
 (.oI2 s.2.2.2.2.2.2 s.2.2.2.2.1
 (.i01 ((gI s.2.2.2.2.1 s.2.2.2.2.2.2) < z0)
 (.ret (.inr (Sum.inl ())))
 (.i01 ((gI s.2.2.2.2.1 s.2.2.2.2.2.2) ≥ (nL x.2))
 (.ret (.inr (Sum.inl ())))
 (.oI2 (gI s.2.2.2.2.1 s.2.2.2.2.2.2) s.2.1
 (.b01 (gT s.2.1 (gI s.2.2.2.2.1 s.2.2.2.2.2.2) false)
 (.ret (.inr (Sum.inl ())))
 (.oI2 (gI s.2.2.2.2.1 s.2.2.2.2.2.2) s.2.1
 (.lt (List.set s.2.1 (tN (gI s.2.2.2.2.1 s.2.2.2.2.2.2)) true) fun y =>
 (LoopD.lp (isT_l4 x) (isT_l4_t x) (s.1,(y,(s.2.2.1,((gI s.2.2.2.2.1 s.2.2.2.2.2.2),(s.2.2.1,(s.2.2.2.1,(s.2.2.2.2.1,(s.2.2.2.2.2.1,s.2.2.2.2.2.2)))))))) fun r =>
 (.s00 r (fun a =>
 (.ret (.inr (Sum.inl ())))) (fun b =>
 (.ret (.inl (b.1,(b.2.1,(b.2.2.1,(b.2.2.2.1,(b.2.2.2.2.1,(b.2.2.2.2.2.1,(w1 b.2.2.2.2.2.2)))))))))))))))))))
 (.ret (.inr (Sum.inr ((s.1,(s.2.1,s.2.2.2.1)))))))
def isT_l0 (x : ((List ((I3 × I3) × (Int × (Int × (List Int))))) × (List I9))) : LoopD := ⟨[],⟨pvs 78 0 [(0,.v (.one (.full 0))),(1,.v (.one (.full 1))),(5,.v (.one (.full 2))),(7,.v (.one (.full 3))),(23,.v (.one (.full 0))),(24,.v (.one (.i .i64))),(25,.v (.one (.i .i64)))],[.row (Ty.prod (Ty.prod yy3 yy3) (Ty.prod yi (Ty.prod yi (Ty.sl yi)))) 0,.row yy9 0,.row yi 2,.row Ty.bool 2],0,none,[],[0,2,3],[4,5,1],[(.l yi),(.l Ty.bool),.i],[.i (x.1.length:Int),.l (Ty.prod (Ty.prod yy3 yy3) (Ty.prod yi (Ty.prod yi (Ty.sl yi)))) x.1,.l yy9 x.2]⟩,[⟨.ret,.ret,⟨pvs 78 0 [(4,.v (.one (.b)))],[],0,none,[],[0],[],[],[.b false]⟩⟩,⟨(.exit 0),.normal,⟨pvs 78 0 [(7,.v (.one (.full 0)))],[.row Ty.bool 2],0,none,[],[],[0],[(.l Ty.bool)],[]⟩⟩]⟩
def isT_l0_step (x : ((List ((I3 × I3) × (Int × (Int × (List Int))))) × (List I9))) (s : ((List Int) × ((List Bool) × Int))) : ((List Int) × ((List Bool) × Int)) ⊕ (Unit ⊕ (List Bool)) :=
 (if (s.2.2 < (x.1.length:Int)) then
 (letV (run (isT_l2_step x) (s.1,(s.2.1,(s.2.2,(s.2.2,((List.getD x.1 (Int.toNat s.2.2) ((((0:Int),((0:Int),(0:Int))),((0:Int),((0:Int),(0:Int)))),((0:Int),((0:Int),[])))).2.2.2,(((List.getD x.1 (Int.toNat s.2.2) ((((0:Int),((0:Int),(0:Int))),((0:Int),((0:Int),(0:Int)))),((0:Int),((0:Int),[])))).2.2.2.length:Int),(0:Int)))))))) fun r =>
 (Sum.elim (fun a =>
 (Sum.inr (Sum.inl ()))) (fun b =>
 (Sum.inl (b.1,(b.2.1,(w64 (b.2.2 + (1:Int))))))) r)) else
 (Sum.inr (Sum.inr (s.2.1))))
def isT_l0_pre (x : ((List ((I3 × I3) × (Int × (Int × (List Int))))) × (List I9))) (s : ((List Int) × ((List Bool) × Int))) : Prop :=
 ((s.2.2 < (x.1.length:Int)) →
 ((((0:Int) ≤ s.2.2) ∧ (s.2.2 < (x.1.length:Int))) ∧
 (((Int.toNat s.2.2) < (List.length x.1)) ∧
 (((Int.toNat s.2.2) < (List.length x.1)) ∧
 (Term (isT_l2_step x) (isT_l2_pre x) (s.1,(s.2.1,(s.2.2,(s.2.2,((List.getD x.1 (Int.toNat s.2.2) ((((0:Int),((0:Int),(0:Int))),((0:Int),((0:Int),(0:Int)))),((0:Int),((0:Int),[])))).2.2.2,(((List.getD x.1 (Int.toNat s.2.2) ((((0:Int),((0:Int),(0:Int))),((0:Int),((0:Int),(0:Int)))),((0:Int),((0:Int),[])))).2.2.2.length:Int),(0:Int))))))))))))
def isT_l0_t (x : ((List ((I3 × I3) × (Int × (Int × (List Int))))) × (List I9))) (s : ((List Int) × ((List Bool) × Int))) : Tr (((List Int) × ((List Bool) × Int)) ⊕ (Unit ⊕ (List Bool))) true :=
 (.i10 (s.2.2 < (nL x.1))
 (.oI2 s.2.2 x.1
 (LoopD.lp (isT_l2 x) (isT_l2_t x) (s.1,(s.2.1,(s.2.2,(s.2.2,((gT x.1 s.2.2 ((zz3,zz3),(z0,(z0,[])))).2.2.2,((nL (gT x.1 s.2.2 ((zz3,zz3),(z0,(z0,[])))).2.2.2),z0)))))) fun r =>
 (.s00 r (fun a =>
 (.ret (.inr (Sum.inl ())))) (fun b =>
 (.ret (.inl (b.1,(b.2.1,(w1 b.2.2)))))))))
 (.ret (.inr (Sum.inr (s.2.1)))))
def isT (x : ((List ((I3 × I3) × (Int × (Int × (List Int))))) × (List I9))) : Bool :=
 (letV (parentsT x.1) fun y =>
 (if ((!y.2) = true) then
 false else
 (letV (run (isT_l0_step x) (y.1,((List.replicate (List.length x.2) false),(0:Int)))) fun r =>
 (Sum.elim (fun a =>
 false) (fun b =>
 (letV (containsB (b,false)) fun y_1 =>
 (!y_1))) r))))
def isT_pre (x : ((List ((I3 × I3) × (Int × (Int × (List Int))))) × (List I9))) : Prop :=
 ((parentsT_pre x.1) ∧
 letP (parentsT x.1) fun y =>
 (¬ ((!y.2) = true) →
 ((((x.2.length:Int) ≤ (x.2.length:Int)) ∧ ((List.length x.2) < 1099511627776)) ∧
 (Term (isT_l0_step x) (isT_l0_pre x) (y.1,((List.replicate (List.length x.2) false),(0:Int))) ∧
 letP (run (isT_l0_step x) (y.1,((List.replicate (List.length x.2) false),(0:Int)))) fun r =>
 (cS r (fun a =>
 True) (fun b =>
 (containsB_pre (b,false))))))))
def isT_t (x : ((List ((I3 × I3) × (Int × (Int × (List Int))))) × (List I9))) : Tr Bool true :=
 (.fn parentsT_S x.1 fun y =>
 (.b01 (!y.2)
 (.ret false)
 (.og (((decide (z0 ≤ (nL x.2))) && (decide ((nL x.2) ≤ (nL x.2)))) && (decide ((List.length x.2) < 1099511627776))) (((nL x.2) ≤ (nL x.2)) ∧ ((List.length x.2) < 1099511627776)) (fun h => (and_t (and_t rfl (decide_eq_true h.1)) (decide_eq_true h.2)))
 (LoopD.lp (isT_l0 x) (isT_l0_t x) (y.1,((List.replicate (List.length x.2) false),z0)) fun r =>
 (.s01 r (fun a =>
 (.ret false)) (fun b =>
 (.fn containsB_S (b,false) fun y_1 =>
 (.ret (!y_1)))))))))
abbrev isT_S : FnS := ⟨(.pair (.one (Ty.sl (Ty.prod (Ty.prod yy3 yy3) (Ty.prod yi (Ty.prod yi (Ty.sl yi)))))) (.one (Ty.sl yy9))),(.one Ty.bool),isT_pre,isT⟩
theorem isT_ok : SpecOk Try.prog 9 (fnSpec isT_S) := SpecOk.tr isT_S isT_t (fn := Try.f9) tt_ok sp_containsB_ok mixed (by kernel_rfl) (ItsOk.nil _ _) (fun x => (LpsOk.tr tt_ok (SpecsOk.ctxI sp_containsB_ok (ItsOk.nil _ _)) mixed 0 (isT_l0 x) (isT_l0_t x) (LpsOk.tr tt_ok (SpecsOk.ctxI sp_containsB_ok (ItsOk.nil _ _)) mixed 2 (isT_l2 x) (isT_l2_t x) (LpsOk.tr tt_ok (SpecsOk.ctxI sp_containsB_ok (ItsOk.nil _ _)) mixed 4 (isT_l4 x) (isT_l4_t x) LpsOk.nil (by kernel_rfl) fun g s Q => (by kernel_rfl)) (by kernel_rfl) fun g s Q => (by kernel_rfl)) (by kernel_rfl) fun g s Q => (by kernel_rfl))) (fun x => (by kernel_rfl)) fun x Q => (by kernel_rfl)
def sp_isT : List (Nat × Ev.Spec) := (9,fnSpec isT_S) :: sp_containsB
theorem sp_isT_ok : SpecsOk Try.prog sp_isT := SpecsOk.add (fn := Try.f9) (by kernel_rfl) isT_ok sp_containsB_ok
def depthT_l2_10_tm (x : (List ((I3 × I3) × (Int × (Int × (List Int)))))) (g0 : Loop) (g1 : Env) (g2 : Env) (s : ((List Int) × ((List Int) × (Int × I3)))) : AS := ⟨(D :: .v (.one (.ptr 1 0)) :: D :: .v (.one (.ptr 3 0)) :: vi s.2.2.1 :: D :: D :: D :: D :: D :: D :: D :: D :: D :: D :: D :: D :: D :: D :: D :: D :: D :: D :: D :: D :: D :: D :: D :: D :: .v (.one (.sl 10 0 2 2)) :: vi (2:Int) :: vi s.2.2.2.2.2 :: D :: D :: D :: D :: D :: D :: D :: D :: D :: D :: D :: D :: D :: D :: D :: D :: D :: D :: D :: D :: D :: D :: D :: D :: D :: D :: D :: D :: D :: []),[.row (Ty.prod (Ty.prod yy3 yy3) (Ty.prod yi (Ty.prod yi (Ty.sl yi)))) x 0,.cells [.full 0] 23,.row yi s.1 2,.cells [.full 2] 28,.gone,.cells [.full 0] 23,.loop g0 LoopState.busy Option.none,.pin g1 7,.row yi s.2.1 0,.pin g2 9,.cells [ci s.2.2.2.1,ci s.2.2.2.2.1] 3]⟩
def depthT_l2_10_out (x : (List ((I3 × I3) × (Int × (Int × (List Int)))))) (g0 : Loop) (g1 : Env) (g2 : Env) (r : ((List Int) × (List Int))) (K : Exit → AS → Prop) : Prop := K .normal ⟨(D :: D :: D :: D :: D :: D :: D :: D :: D :: D :: D :: D :: D :: D :: D :: D :: D :: D :: D :: D :: D :: D :: D :: D :: D :: D :: D :: D :: D :: D :: D :: D :: D :: D :: D :: D :: D :: D :: D :: D :: D :: D :: D :: D :: D :: D :: D :: D :: D :: D :: D :: D :: D :: D :: D :: D :: D :: D :: D :: D :: D :: []),[.row (Ty.prod (Ty.prod yy3 yy3) (Ty.prod yi (Ty.prod yi (Ty.sl yi)))) x 0,.cells [.full 0] 23,.row yi r.1 2,.cells [.full 2] 28,.gone,.cells [.full 0] 23,.loop g0 LoopState.busy Option.none,.pin g1 7,.row yi r.2 0,.pin g2 9]⟩
def depthT_l2_10_step (x : (List ((I3 × I3) × (Int × (Int × (List Int)))))) (s : ((List Int) × ((List Int) × (Int × I3)))) : ((List Int) × ((List Int) × (Int × I3))) ⊕ ((List Int) × (List Int)) :=
 (if (s.2.2.2.2.2 < (2:Int)) then
 (if ((List.getD [s.2.2.2.1,s.2.2.2.2.1] (0 + ((Int.toNat s.2.2.2.2.2) * 1)) (0:Int)) > s.2.2.1) then
 (if ((List.getD [s.2.2.2.1,s.2.2.2.2.1] (0 + ((Int.toNat s.2.2.2.2.2) * 1)) (0:Int)) < (x.length:Int)) then
 (letV (List.set s.1 (Int.toNat s.2.2.1) (maxI (List.getD s.1 (Int.toNat s.2.2.1) (0:Int)) (w64 ((List.getD s.1 (Int.toNat (List.getD [s.2.2.2.1,s.2.2.2.2.1] (0 + ((Int.toNat s.2.2.2.2.2) * 1)) (0:Int))) (0:Int)) + (1:Int))))) fun y =>
 (Sum.inl (y,(s.2.1,(s.2.2.1,(s.2.2.2.1,(s.2.2.2.2.1,(w64 (s.2.2.2.2.2 + (1:Int)))))))))) else
 (Sum.inl (s.1,(s.2.1,(s.2.2.1,(s.2.2.2.1,(s.2.2.2.2.1,(w64 (s.2.2.2.2.2 + (1:Int)))))))))) else
 (Sum.inl (s.1,(s.2.1,(s.2.2.1,(s.2.2.2.1,(s.2.2.2.2.1,(w64 (s.2.2.2.2.2 + (1:Int)))))))))) else
 (Sum.inr ((s.1,s.2.1))))
def depthT_l2_10_pre (x : (List ((I3 × I3) × (Int × (Int × (List Int)))))) (s : ((List Int) × ((List Int) × (Int × I3)))) : Prop :=
 ((s.2.2.2.2.2 < (2:Int)) →
 ((((0:Int) ≤ s.2.2.2.2.2) ∧ (s.2.2.2.2.2 < (2:Int))) ∧
 ((((0 + ((Int.toNat s.2.2.2.2.2) * 1)) + 1) ≤ 2) ∧
 (((List.getD [s.2.2.2.1,s.2.2.2.2.1] (0 + ((Int.toNat s.2.2.2.2.2) * 1)) (0:Int)) > s.2.2.1) →
 (((List.getD [s.2.2.2.1,s.2.2.2.2.1] (0 + ((Int.toNat s.2.2.2.2.2) * 1)) (0:Int)) < (x.length:Int)) →
 ((((0:Int) ≤ s.2.2.1) ∧ (s.2.2.1 < (s.1.length:Int))) ∧
 (((Int.toNat s.2.2.1) < (List.length s.1)) ∧
 (((Int.toNat s.2.2.1) < (List.length s.1)) ∧
 ((((0:Int) ≤ (List.getD [s.2.2.2.1,s.2.2.2.2.1] (0 + ((Int.toNat s.2.2.2.2.2) * 1)) (0:Int))) ∧ ((List.getD [s.2.2.2.1,s.2.2.2.2.1] (0 + ((Int.toNat s.2.2.2.2.2) * 1)) (0:Int)) < (s.1.length:Int))) ∧
 (((Int.toNat (List.getD [s.2.2.2.1,s.2.2.2.2.1] (0 + ((Int.toNat s.2.2.2.2.2) * 1)) (0:Int))) < (List.length s.1)) ∧
 (((Int.toNat (List.getD [s.2.2.2.1,s.2.2.2.2.1] (0 + ((Int.toNat s.2.2.2.2.2) * 1)) (0:Int))) < (List.length s.1)) ∧
 ((((0:Int) ≤ s.2.2.1) ∧ (s.2.2.1 < (s.1.length:Int))) ∧
 (((Int.toNat s.2.2.1) < (List.length s.1)) ∧
 ((Int.toNat s.2.2.1) < (List.length s.1)))))))))))))))
def depthT_l2_10_sp (x : (List ((I3 × I3) × (Int × (Int × (List Int)))))) (g0 : Loop) (g1 : Env) (g2 : Env) : LSpec := loopSp (depthT_l2_10_tm x g0 g1 g2) (depthT_l2_10_step x) (depthT_l2_10_pre x) (depthT_l2_10_out x g0 g1 g2)
def depthT_w0l0_8_tm (x : (List ((I3 × I3) × (Int × (Int × (List Int)))))) (g0 : Loop) (g1 : Env) (s : ((List Int) × Int)) : AS := ⟨[.v (.one (.yld 6)),.v (.one (.ptr 5 0)),D,vi s.2,D,D,D,D,D,D,D,D,D,D,D,D,D,D,D],[.row (Ty.prod (Ty.prod yy3 yy3) (Ty.prod yi (Ty.prod yi (Ty.sl yi)))) x 0,.cells [.full 0] 23,.row yi s.1 2,.cells [.full 2] 28,.gone,.cells [.full 0] 23,.loop g0 LoopState.ready Option.none,.pin g1 7]⟩
def depthT_w0l0_8_out (x : (List ((I3 × I3) × (Int × (Int × (List Int)))))) (g0 : Loop) (g1 : Env) (r : (List Int)) (K : Exit → AS → Prop) : Prop := K .normal ⟨[D,D,D,D,D,D,D,D,D,D,D,D,D,D,D,D,D,D,D],[.row (Ty.prod (Ty.prod yy3 yy3) (Ty.prod yi (Ty.prod yi (Ty.sl yi)))) x 0,.cells [.full 0] 23,.row yi r 2,.cells [.full 2] 28,.gone,.cells [.full 0] 23,.loop g0 LoopState.ready Option.none,.pin g1 7]⟩
def depthT_w0l0_8_step (x : (List ((I3 × I3) × (Int × (Int × (List Int)))))) (t : Unit) (s : ((List Int) × Int)) : ((List Int) × Int) ⊕ (List Int) :=
 (if (s.2 ≥ (0:Int)) then
 (letV (List.set s.1 (Int.toNat s.2) (1:Int)) fun y =>
 (letV (leafN ((List.getD x (Int.toNat s.2) ((((0:Int),((0:Int),(0:Int))),((0:Int),((0:Int),(0:Int)))),((0:Int),((0:Int),[])))),s.2)) fun y_1 =>
 (if (y_1 = true) then
 (Sum.inl (y,(w64 (s.2 - (1:Int))))) else
 (letV (run (depthT_l2_10_step x) (y,((List.getD x (Int.toNat s.2) ((((0:Int),((0:Int),(0:Int))),((0:Int),((0:Int),(0:Int)))),((0:Int),((0:Int),[])))).2.2.2,(s.2,((List.getD x (Int.toNat s.2) ((((0:Int),((0:Int),(0:Int))),((0:Int),((0:Int),(0:Int)))),((0:Int),((0:Int),[])))).2.1,((List.getD x (Int.toNat s.2) ((((0:Int),((0:Int),(0:Int))),((0:Int),((0:Int),(0:Int)))),((0:Int),((0:Int),[])))).2.2.1,(0:Int))))))) fun r =>
 (Sum.inl (r.1,(w64 (s.2 - (1:Int))))))))) else
 (Sum.inr (s.1)))
def depthT_w0l0_8_pre (x : (List ((I3 × I3) × (Int × (Int × (List Int)))))) (t : Unit) (s : ((List Int) × Int)) : Prop :=
 ((s.2 ≥ (0:Int)) →
 ((((0:Int) ≤ s.2) ∧ (s.2 < (x.length:Int))) ∧
 (((Int.toNat s.2) < (List.length x)) ∧
 (((Int.toNat s.2) < (List.length x)) ∧
 ((((0:Int) ≤ s.2) ∧ (s.2 < (s.1.length:Int))) ∧
 (((Int.toNat s.2) < (List.length s.1)) ∧
 (((Int.toNat s.2) < (List.length s.1)) ∧
 (letP (List.set s.1 (Int.toNat s.2) (1:Int)) fun y =>
 (letP (leafN ((List.getD x (Int.toNat s.2) ((((0:Int),((0:Int),(0:Int))),((0:Int),((0:Int),(0:Int)))),((0:Int),((0:Int),[])))),s.2)) fun y_1 =>
 (¬ (y_1 = true) →
 (Term (depthT_l2_10_step x) (depthT_l2_10_pre x) (y,((List.getD x (Int.toNat s.2) ((((0:Int),((0:Int),(0:Int))),((0:Int),((0:Int),(0:Int)))),((0:Int),((0:Int),[])))).2.2.2,(s.2,((List.getD x (Int.toNat s.2) ((((0:Int),((0:Int),(0:Int))),((0:Int),((0:Int),(0:Int)))),((0:Int),((0:Int),[])))).2.1,((List.getD x (Int.toNat s.2) ((((0:Int),((0:Int),(0:Int))),((0:Int),((0:Int),(0:Int)))),((0:Int),((0:Int),[])))).2.2.1,(0:Int)))))))))))))))))
def depthT_w0l0_8_sp (x : (List ((I3 × I3) × (Int × (Int × (List Int)))))) (g0 : Loop) (g1 : Env) (t : Unit) : LSpec := loopSp (depthT_w0l0_8_tm x g0 g1) (depthT_w0l0_8_step x t) (depthT_w0l0_8_pre x t) (depthT_w0l0_8_out x g0 g1)
def depthT_y42_0 (x : (List ((I3 × I3) × (Int × (Int × (List Int)))))) (ys : List (Nat × Ev.Spec)) : List (Nat × LSpec) := []
def depthT_y42_1 (x : (List ((I3 × I3) × (Int × (Int × (List Int)))))) (ys : List (Nat × Ev.Spec)) : List (Nat × LSpec) := (0,altL [(8,atLoop 6 fun g0 => atPin 7 fun g1 => certL ⟨tt,sp_isT,noX,depthT_y42_0 x ys,ys,((25,itFn tt sp_isT noX (fun ys => []) [] Try.f25) :: [])⟩ (.loop (cI (blk 0 (bodyOf Try.f42)))) 0 fun (q : Unit × (Nat → AV)) => depthT_w0l0_8_sp x g0 g1 q.1)]) :: depthT_y42_0 x ys
def depthT_c (x : (List ((I3 × I3) × (Int × (Int × (List Int)))))) : Ctx := ⟨tt,sp_isT,noX,((2,altL [(10,atLoop 6 fun g0 => atPin 7 fun g1 => atPin 9 fun g2 => depthT_l2_10_sp x g0 g1 g2)]) :: []),[],((42,itFn tt sp_isT noX (depthT_y42_1 x) ((25,itFn tt sp_isT noX (fun ys => []) [] Try.f25) :: []) Try.f42) :: ((25,itFn tt sp_isT noX (fun ys => []) [] Try.f25) :: []))⟩
theorem depthT_l2_10_vc (x : (List ((I3 × I3) × (Int × (Int × (List Int)))))) (g0 : Loop) (g1 : Env) (g2 : Env) (s : ((List Int) × ((List Int) × (Int × I3)))) (K : Exit → AS → Prop) (KN : AS → Prop) : codeE ⟨tt,sp_isT,noX,[],[],((42,itFn tt sp_isT noX (depthT_y42_1 x) ((25,itFn tt sp_isT noX (fun ys => []) [] Try.f25) :: []) Try.f42) :: ((25,itFn tt sp_isT noX (fun ys => []) [] Try.f25) :: []))⟩ (cI (blk 2 (bodyOf Try.f10))) (depthT_l2_10_tm x g0 g1 g2 s) (KB 2 K KN) =
 (cB (decide (s.2.2.2.2.2 < (2:Int)))
 (ob ((decide ((0:Int) ≤ s.2.2.2.2.2)) && (decide (s.2.2.2.2.2 < (2:Int))))
 (ob (decide (((0 + ((Int.toNat s.2.2.2.2.2) * 1)) + 1) ≤ 2))
 (cB (decide ((List.getD [s.2.2.2.1,s.2.2.2.2.1] (0 + ((Int.toNat s.2.2.2.2.2) * 1)) (0:Int)) > s.2.2.1))
 (cB (decide ((List.getD [s.2.2.2.1,s.2.2.2.2.1] (0 + ((Int.toNat s.2.2.2.2.2) * 1)) (0:Int)) < (x.length:Int)))
 (ob ((decide ((0:Int) ≤ s.2.2.1)) && (decide (s.2.2.1 < (s.1.length:Int))))
 (ob (decide ((Int.toNat s.2.2.1) < (List.length s.1)))
 (ob (decide ((Int.toNat s.2.2.1) < (List.length s.1)))
 (ob ((decide ((0:Int) ≤ (List.getD [s.2.2.2.1,s.2.2.2.2.1] (0 + ((Int.toNat s.2.2.2.2.2) * 1)) (0:Int)))) && (decide ((List.getD [s.2.2.2.1,s.2.2.2.2.1] (0 + ((Int.toNat s.2.2.2.2.2) * 1)) (0:Int)) < (s.1.length:Int))))
 (ob (decide ((Int.toNat (List.getD [s.2.2.2.1,s.2.2.2.2.1] (0 + ((Int.toNat s.2.2.2.2.2) * 1)) (0:Int))) < (List.length s.1)))
 (ob (decide ((Int.toNat (List.getD [s.2.2.2.1,s.2.2.2.2.1] (0 + ((Int.toNat s.2.2.2.2.2) * 1)) (0:Int))) < (List.length s.1)))
 (ob ((decide ((0:Int) ≤ s.2.2.1)) && (decide (s.2.2.1 < (s.1.length:Int))))
 (ob (decide ((Int.toNat s.2.2.1) < (List.length s.1)))
 (ob (decide ((Int.toNat s.2.2.1) < (List.length s.1)))
 (True ∧ ∀ y : (List Int),y = (List.set s.1 (Int.toNat s.2.2.1) (maxI (List.getD s.1 (Int.toNat s.2.2.1) (0:Int)) (w64 ((List.getD s.1 (Int.toNat (List.getD [s.2.2.2.1,s.2.2.2.2.1] (0 + ((Int.toNat s.2.2.2.2.2) * 1)) (0:Int))) (0:Int)) + (1:Int))))) →
 (KB 2 K KN .normal ⟨(D :: .v (.one (.ptr 1 0)) :: D :: .v (.one (.ptr 3 0)) :: vi s.2.2.1 :: D :: D :: vi (List.getD [s.2.2.2.1,s.2.2.2.2.1] (0 + ((Int.toNat s.2.2.2.2.2) * 1)) (0:Int)) :: D :: D :: D :: D :: D :: D :: D :: D :: D :: D :: D :: D :: D :: D :: D :: D :: D :: D :: D :: D :: D :: .v (.one (.sl 10 0 2 2)) :: vi (2:Int) :: vi (w64 (s.2.2.2.2.2 + (1:Int))) :: vb (decide (s.2.2.2.2.2 < (2:Int))) :: .v (.one (.aptr 10 (0 + ((Int.toNat s.2.2.2.2.2) * 1)))) :: vi (List.getD [s.2.2.2.1,s.2.2.2.2.1] (0 + ((Int.toNat s.2.2.2.2.2) * 1)) (0:Int)) :: vi (List.getD [s.2.2.2.1,s.2.2.2.2.1] (0 + ((Int.toNat s.2.2.2.2.2) * 1)) (0:Int)) :: vi s.2.2.1 :: vb (decide ((List.getD [s.2.2.2.1,s.2.2.2.2.1] (0 + ((Int.toNat s.2.2.2.2.2) * 1)) (0:Int)) > s.2.2.1)) :: vb true :: vi (List.getD [s.2.2.2.1,s.2.2.2.2.1] (0 + ((Int.toNat s.2.2.2.2.2) * 1)) (0:Int)) :: .v (.one (.full 0)) :: vi (x.length:Int) :: vb (decide ((List.getD [s.2.2.2.1,s.2.2.2.2.1] (0 + ((Int.toNat s.2.2.2.2.2) * 1)) (0:Int)) < (x.length:Int))) :: vb (decide ((List.getD [s.2.2.2.1,s.2.2.2.2.1] (0 + ((Int.toNat s.2.2.2.2.2) * 1)) (0:Int)) < (x.length:Int))) :: .v (.one (.full 2)) :: vi s.2.2.1 :: .v (.one (.full 2)) :: vi s.2.2.1 :: .v (.one (.eptr 2 (Int.toNat s.2.2.1) 0)) :: vi (List.getD s.1 (Int.toNat s.2.2.1) (0:Int)) :: .v (.one (.full 2)) :: vi (List.getD [s.2.2.2.1,s.2.2.2.2.1] (0 + ((Int.toNat s.2.2.2.2.2) * 1)) (0:Int)) :: .v (.one (.eptr 2 (Int.toNat (List.getD [s.2.2.2.1,s.2.2.2.2.1] (0 + ((Int.toNat s.2.2.2.2.2) * 1)) (0:Int))) 0)) :: vi (List.getD s.1 (Int.toNat (List.getD [s.2.2.2.1,s.2.2.2.2.1] (0 + ((Int.toNat s.2.2.2.2.2) * 1)) (0:Int))) (0:Int)) :: vi (w64 ((List.getD s.1 (Int.toNat (List.getD [s.2.2.2.1,s.2.2.2.2.1] (0 + ((Int.toNat s.2.2.2.2.2) * 1)) (0:Int))) (0:Int)) + (1:Int))) :: vi (maxI (List.getD s.1 (Int.toNat s.2.2.1) (0:Int)) (w64 ((List.getD s.1 (Int.toNat (List.getD [s.2.2.2.1,s.2.2.2.2.1] (0 + ((Int.toNat s.2.2.2.2.2) * 1)) (0:Int))) (0:Int)) + (1:Int)))) :: .v (.one (.eptr 2 (Int.toNat s.2.2.1) 0)) :: vi (w64 (s.2.2.2.2.2 + (1:Int))) :: D :: D :: D :: []),[.row (Ty.prod (Ty.prod yy3 yy3) (Ty.prod yi (Ty.prod yi (Ty.sl yi)))) x 0,.cells [.full 0] 23,.row yi y 2,.cells [.full 2] 28,.gone,.cells [.full 0] 23,.loop g0 LoopState.busy Option.none,.pin g1 7,.row yi s.2.1 0,.pin g2 9,.cells [ci s.2.2.2.1,ci s.2.2.2.2.1] 3]⟩)))))))))))
 (KB 2 K KN .normal ⟨(D :: .v (.one (.ptr 1 0)) :: D :: .v (.one (.ptr 3 0)) :: vi s.2.2.1 :: D :: D :: vi (List.getD [s.2.2.2.1,s.2.2.2.2.1] (0 + ((Int.toNat s.2.2.2.2.2) * 1)) (0:Int)) :: D :: D :: D :: D :: D :: D :: D :: D :: D :: D :: D :: D :: D :: D :: D :: D :: D :: D :: D :: D :: D :: .v (.one (.sl 10 0 2 2)) :: vi (2:Int) :: vi (w64 (s.2.2.2.2.2 + (1:Int))) :: vb (decide (s.2.2.2.2.2 < (2:Int))) :: .v (.one (.aptr 10 (0 + ((Int.toNat s.2.2.2.2.2) * 1)))) :: vi (List.getD [s.2.2.2.1,s.2.2.2.2.1] (0 + ((Int.toNat s.2.2.2.2.2) * 1)) (0:Int)) :: vi (List.getD [s.2.2.2.1,s.2.2.2.2.1] (0 + ((Int.toNat s.2.2.2.2.2) * 1)) (0:Int)) :: vi s.2.2.1 :: vb (decide ((List.getD [s.2.2.2.1,s.2.2.2.2.1] (0 + ((Int.toNat s.2.2.2.2.2) * 1)) (0:Int)) > s.2.2.1)) :: vb true :: vi (List.getD [s.2.2.2.1,s.2.2.2.2.1] (0 + ((Int.toNat s.2.2.2.2.2) * 1)) (0:Int)) :: .v (.one (.full 0)) :: vi (x.length:Int) :: vb (decide ((List.getD [s.2.2.2.1,s.2.2.2.2.1] (0 + ((Int.toNat s.2.2.2.2.2) * 1)) (0:Int)) < (x.length:Int))) :: vb (decide ((List.getD [s.2.2.2.1,s.2.2.2.2.1] (0 + ((Int.toNat s.2.2.2.2.2) * 1)) (0:Int)) < (x.length:Int))) :: D :: D :: D :: D :: D :: D :: D :: D :: D :: D :: D :: D :: D :: vi (w64 (s.2.2.2.2.2 + (1:Int))) :: D :: D :: D :: []),[.row (Ty.prod (Ty.prod yy3 yy3) (Ty.prod yi (Ty.prod yi (Ty.sl yi)))) x 0,.cells [.full 0] 23,.row yi s.1 2,.cells [.full 2] 28,.gone,.cells [.full 0] 23,.loop g0 LoopState.busy Option.none,.pin g1 7,.row yi s.2.1 0,.pin g2 9,.cells [ci s.2.2.2.1,ci s.2.2.2.2.1] 3]⟩))
 (KB 2 K KN .normal ⟨(D :: .v (.one (.ptr 1 0)) :: D :: .v (.one (.ptr 3 0)) :: vi s.2.2.1 :: D :: D :: vi (List.getD [s.2.2.2.1,s.2.2.2.2.1] (0 + ((Int.toNat s.2.2.2.2.2) * 1)) (0:Int)) :: D :: D :: D :: D :: D :: D :: D :: D :: D :: D :: D :: D :: D :: D :: D :: D :: D :: D :: D :: D :: D :: .v (.one (.sl 10 0 2 2)) :: vi (2:Int) :: vi (w64 (s.2.2.2.2.2 + (1:Int))) :: vb (decide (s.2.2.2.2.2 < (2:Int))) :: .v (.one (.aptr 10 (0 + ((Int.toNat s.2.2.2.2.2) * 1)))) :: vi (List.getD [s.2.2.2.1,s.2.2.2.2.1] (0 + ((Int.toNat s.2.2.2.2.2) * 1)) (0:Int)) :: vi (List.getD [s.2.2.2.1,s.2.2.2.2.1] (0 + ((Int.toNat s.2.2.2.2.2) * 1)) (0:Int)) :: vi s.2.2.1 :: vb (decide ((List.getD [s.2.2.2.1,s.2.2.2.2.1] (0 + ((Int.toNat s.2.2.2.2.2) * 1)) (0:Int)) > s.2.2.1)) :: vb false :: und :: und :: und :: und :: vb false :: D :: D :: D :: D :: D :: D :: D :: D :: D :: D :: D :: D :: D :: vi (w64 (s.2.2.2.2.2 + (1:Int))) :: D :: D :: D :: []),[.row (Ty.prod (Ty.prod yy3 yy3) (Ty.prod yi (Ty.prod yi (Ty.sl yi)))) x 0,.cells [.full 0] 23,.row yi s.1 2,.cells [.full 2] 28,.gone,.cells [.full 0] 23,.loop g0 LoopState.busy Option.none,.pin g1 7,.row yi s.2.1 0,.pin g2 9,.cells [ci s.2.2.2.1,ci s.2.2.2.2.1] 3]⟩))))
 (KB 2 K KN (.exit 2) ⟨(D :: .v (.one (.ptr 1 0)) :: D :: .v (.one (.ptr 3 0)) :: vi s.2.2.1 :: D :: D :: D :: D :: D :: D :: D :: D :: D :: D :: D :: D :: D :: D :: D :: D :: D :: D :: D :: D :: D :: D :: D :: D :: .v (.one (.sl 10 0 2 2)) :: vi (2:Int) :: vi s.2.2.2.2.2 :: vb (decide (s.2.2.2.2.2 < (2:Int))) :: D :: D :: D :: D :: D :: D :: D :: D :: D :: D :: D :: D :: D :: D :: D :: D :: D :: D :: D :: D :: D :: D :: D :: D :: D :: D :: D :: D :: []),[.row (Ty.prod (Ty.prod yy3 yy3) (Ty.prod yi (Ty.prod yi (Ty.sl yi)))) x 0,.cells [.full 0] 23,.row yi s.1 2,.cells [.full 2] 28,.gone,.cells [.full 0] 23,.loop g0 LoopState.busy Option.none,.pin g1 7,.row yi s.2.1 0,.pin g2 9,.cells [ci s.2.2.2.1,ci s.2.2.2.2.1] 3]⟩)) := by kernel_rfl
theorem depthT_l2_10_ok (x : (List ((I3 × I3) × (Int × (Int × (List Int)))))) (g0 : Loop) (g1 : Env) (g2 : Env) : LOk ⟨tt,sp_isT,noX,[],[],((42,itFn tt sp_isT noX (depthT_y42_1 x) ((25,itFn tt sp_isT noX (fun ys => []) [] Try.f25) :: []) Try.f42) :: ((25,itFn tt sp_isT noX (fun ys => []) [] Try.f25) :: []))⟩ (.loop (cI (blk 2 (bodyOf Try.f10)))) 2 (depthT_l2_10_sp x g0 g1 g2) := fun st K hk => loopSp_okV (fun s K KN hp hq => .eq (depthT_l2_10_vc x g0 g1 g2 s K KN) (have hp := Eq.mp (depthT_l2_10_pre.eq_1 x s) hp; have hq := Eq.mp (congrArg (stepQ (depthT_l2_10_tm x g0 g1 g2) (depthT_l2_10_out x g0 g1 g2) K KN) (depthT_l2_10_step.eq_1 x s)) hq;
 (cB_d (Q := (stepQ (depthT_l2_10_tm x g0 g1 g2) (depthT_l2_10_out x g0 g1 g2) K KN)) hq (fun c hq => have hp := (hp c); (ob_k (and_t (decide_eq_true hp.1.1) (decide_eq_true hp.1.2)) (have hp := hp.2; (ob_k (decide_eq_true hp.1) (have hp := hp.2; (cB_d (Q := (stepQ (depthT_l2_10_tm x g0 g1 g2) (depthT_l2_10_out x g0 g1 g2) K KN)) hq (fun c hq => have hp := (hp c); (cB_d (Q := (stepQ (depthT_l2_10_tm x g0 g1 g2) (depthT_l2_10_out x g0 g1 g2) K KN)) hq (fun c hq => have hp := (hp c); (ob_k (and_t (decide_eq_true hp.1.1) (decide_eq_true hp.1.2)) (have hp := hp.2; (ob_k (decide_eq_true hp.1) (have hp := hp.2; (ob_k (decide_eq_true hp.1) (have hp := hp.2; (ob_k (and_t (decide_eq_true hp.1.1) (decide_eq_true hp.1.2)) (have hp := hp.2; (ob_k (decide_eq_true hp.1) (have hp := hp.2; (ob_k (decide_eq_true hp.1) (have hp := hp.2; (ob_k (and_t (decide_eq_true hp.1.1) (decide_eq_true hp.1.2)) (have hp := hp.2; (ob_k (decide_eq_true hp.1) (have hp := hp.2; (ob_k (decide_eq_true hp) (And.intro trivial (let_0 (Q := (stepQ (depthT_l2_10_tm x g0 g1 g2) (depthT_l2_10_out x g0 g1 g2) K KN)) hq fun y hq => (Exists.intro (depthT_l2_10_tm x g0 g1 g2 (y,(s.2.1,(s.2.2.1,(s.2.2.2.1,(s.2.2.2.2.1,(w64 (s.2.2.2.2.2 + (1:Int))))))))) (And.intro (ren_ok (π := [.same 0,.same 1,.same 2,.same 3,.same 4,.same 5,.same 6,.same 7,.same 8,.same 9,.same 10]) (And.intro rfl (And.intro rfl (And.intro rfl (And.intro rfl (And.intro rfl (And.intro rfl trivial)))))) (And.intro (ren_same rfl rfl) (And.intro (ren_same rfl rfl) (And.intro (ren_same rfl rfl) (And.intro (ren_same rfl rfl) (And.intro (ren_same rfl rfl) (And.intro (ren_same rfl rfl) (And.intro (ren_same rfl rfl) (And.intro (ren_same rfl rfl) (And.intro (ren_same rfl rfl) (And.intro (ren_same rfl rfl) trivial)))))))))) rfl) hq)))))))))))))))))))))) (fun c hq => (Exists.intro (depthT_l2_10_tm x g0 g1 g2 (s.1,(s.2.1,(s.2.2.1,(s.2.2.2.1,(s.2.2.2.2.1,(w64 (s.2.2.2.2.2 + (1:Int))))))))) (And.intro (ren_ok (π := [.same 0,.same 1,.same 2,.same 3,.same 4,.same 5,.same 6,.same 7,.same 8,.same 9,.same 10]) (And.intro rfl (And.intro rfl (And.intro rfl (And.intro rfl (And.intro rfl (And.intro rfl trivial)))))) (And.intro (ren_same rfl rfl) (And.intro (ren_same rfl rfl) (And.intro (ren_same rfl rfl) (And.intro (ren_same rfl rfl) (And.intro (ren_same rfl rfl) (And.intro (ren_same rfl rfl) (And.intro (ren_same rfl rfl) (And.intro (ren_same rfl rfl) (And.intro (ren_same rfl rfl) (And.intro (ren_same rfl rfl) trivial)))))))))) rfl) hq))))) (fun c hq => (Exists.intro (depthT_l2_10_tm x g0 g1 g2 (s.1,(s.2.1,(s.2.2.1,(s.2.2.2.1,(s.2.2.2.2.1,(w64 (s.2.2.2.2.2 + (1:Int))))))))) (And.intro (ren_ok (π := [.same 0,.same 1,.same 2,.same 3,.same 4,.same 5,.same 6,.same 7,.same 8,.same 9,.same 10]) (And.intro rfl (And.intro rfl (And.intro rfl (And.intro rfl (And.intro rfl (And.intro rfl trivial)))))) (And.intro (ren_same rfl rfl) (And.intro (ren_same rfl rfl) (And.intro (ren_same rfl rfl) (And.intro (ren_same rfl rfl) (And.intro (ren_same rfl rfl) (And.intro (ren_same rfl rfl) (And.intro (ren_same rfl rfl) (And.intro (ren_same rfl rfl) (And.intro (ren_same rfl rfl) (And.intro (ren_same rfl rfl) trivial)))))))))) rfl) hq))))))))) (fun c hq => (Exists.intro ⟨(D :: D :: D :: D :: D :: D :: D :: D :: D :: D :: D :: D :: D :: D :: D :: D :: D :: D :: D :: D :: D :: D :: D :: D :: D :: D :: D :: D :: D :: D :: D :: D :: D :: D :: D :: D :: D :: D :: D :: D :: D :: D :: D :: D :: D :: D :: D :: D :: D :: D :: D :: D :: D :: D :: D :: D :: D :: D :: D :: D :: D :: []),[.row (Ty.prod (Ty.prod yy3 yy3) (Ty.prod yi (Ty.prod yi (Ty.sl yi)))) x 0,.cells [.full 0] 23,.row yi s.1 2,.cells [.full 2] 28,.gone,.cells [.full 0] 23,.loop g0 LoopState.busy Option.none,.pin g1 7,.row yi s.2.1 0,.pin g2 9]⟩ (And.intro (ren_ok (π := [.same 0,.same 1,.same 2,.same 3,.same 4,.same 5,.same 6,.same 7,.same 8,.same 9]) trivial (And.intro (ren_same rfl rfl) (And.intro (ren_same rfl rfl) (And.intro (ren_same rfl rfl) (And.intro (ren_same rfl rfl) (And.intro (ren_same rfl rfl) (And.intro (ren_same rfl rfl) (And.intro (ren_same rfl rfl) (And.intro (ren_same rfl rfl) (And.intro (ren_same rfl rfl) trivial))))))))) rfl) hq)))))) st K hk
theorem depthT_w0l0_8_vc (x : (List ((I3 × I3) × (Int × (Int × (List Int)))))) (g0 : Loop) (g1 : Env) (t : Unit) (d : Nat → AV) (s : ((List Int) × Int)) (K : Exit → AS → Prop) (KN : AS → Prop) : codeE ⟨tt,sp_isT,noX,(depthT_y42_0 x (ysE 6 ((d 0) :: .v (.one (.ptr 1 0)) :: (d 2) :: .v (.one (.ptr 3 0)) :: (d 4) :: (d 5) :: (d 6) :: (d 7) :: (d 8) :: (d 9) :: (d 10) :: (d 11) :: (d 12) :: (d 13) :: (d 14) :: (d 15) :: (d 16) :: (d 17) :: (d 18) :: (d 19) :: (d 20) :: (d 21) :: (d 22) :: (d 23) :: (d 24) :: (d 25) :: (d 26) :: (d 27) :: (d 28) :: (d 29) :: (d 30) :: (d 31) :: (d 32) :: (d 33) :: (d 34) :: (d 35) :: (d 36) :: (d 37) :: (d 38) :: (d 39) :: (d 40) :: (d 41) :: (d 42) :: (d 43) :: (d 44) :: (d 45) :: (d 46) :: (d 47) :: (d 48) :: (d 49) :: (d 50) :: (d 51) :: (d 52) :: (d 53) :: (d 54) :: (d 55) :: (d 56) :: (d 57) :: (d 58) :: (d 59) :: (d 60) :: []) g0 g1 [16,17] (depthT_c x) Try.f10)),(ysE 6 ((d 0) :: .v (.one (.ptr 1 0)) :: (d 2) :: .v (.one (.ptr 3 0)) :: (d 4) :: (d 5) :: (d 6) :: (d 7) :: (d 8) :: (d 9) :: (d 10) :: (d 11) :: (d 12) :: (d 13) :: (d 14) :: (d 15) :: (d 16) :: (d 17) :: (d 18) :: (d 19) :: (d 20) :: (d 21) :: (d 22) :: (d 23) :: (d 24) :: (d 25) :: (d 26) :: (d 27) :: (d 28) :: (d 29) :: (d 30) :: (d 31) :: (d 32) :: (d 33) :: (d 34) :: (d 35) :: (d 36) :: (d 37) :: (d 38) :: (d 39) :: (d 40) :: (d 41) :: (d 42) :: (d 43) :: (d 44) :: (d 45) :: (d 46) :: (d 47) :: (d 48) :: (d 49) :: (d 50) :: (d 51) :: (d 52) :: (d 53) :: (d 54) :: (d 55) :: (d 56) :: (d 57) :: (d 58) :: (d 59) :: (d 60) :: []) g0 g1 [16,17] (depthT_c x) Try.f10),((25,itFn tt sp_isT noX (fun ys => []) [] Try.f25) :: [])⟩ (cI (blk 0 (bodyOf Try.f42))) (depthT_w0l0_8_tm x g0 g1 s) (KB 0 K KN) =
 (cB (decide (s.2 ≥ (0:Int)))
 (ob ((decide ((0:Int) ≤ s.2)) && (decide (s.2 < (x.length:Int))))
 (ob (decide ((Int.toNat s.2) < (List.length x)))
 (ob (decide ((Int.toNat s.2) < (List.length x)))
 ((noX = noX) ∧
 ((g1 = g1) ∧
 ((7 = 7) ∧
 ((g0 = g0) ∧
 (∀ ρ1 : Env,
 ((ρ1 = ρ1) ∧
 ((9 = 9) ∧
 ((g0 = g0) ∧
 (ob ((decide ((0:Int) ≤ s.2)) && (decide (s.2 < (s.1.length:Int))))
 (ob (decide ((Int.toNat s.2) < (List.length s.1)))
 (ob (decide ((Int.toNat s.2) < (List.length s.1)))
 (True ∧ ∀ y : (List Int),y = (List.set s.1 (Int.toNat s.2) (1:Int)) →
 ((leafN_pre ((List.getD x (Int.toNat s.2) ((zz3,zz3),((0:Int),((0:Int),[])))),s.2)) ∧ ∀ y_1 : Bool,y_1 = (leafN ((List.getD x (Int.toNat s.2) ((zz3,zz3),((0:Int),((0:Int),[])))),s.2)) →
 (cB y_1
 ((g0 = g0) ∧
 ((ρ1 = ρ1) ∧
 ((9 = 9) ∧
 (KB 0 K KN .normal ⟨[.v (.one (.yld 6)),.v (.one (.ptr 5 0)),D,vi (w64 (s.2 - (1:Int))),D,D,D,vi s.2,vb (decide (s.2 ≥ (0:Int))),vi s.2,vi (w64 (s.2 - (1:Int))),.v (.one (.yld 6)),vi s.2,.v (.one (.full 0)),vi s.2,.v (.one (.eptr 0 (Int.toNat s.2) 0)),.v (.agg [ci (List.getD x (Int.toNat s.2) ((zz3,zz3),((0:Int),((0:Int),[])))).1.1.1,ci (List.getD x (Int.toNat s.2) ((zz3,zz3),((0:Int),((0:Int),[])))).1.1.2.1,ci (List.getD x (Int.toNat s.2) ((zz3,zz3),((0:Int),((0:Int),[])))).1.1.2.2,ci (List.getD x (Int.toNat s.2) ((zz3,zz3),((0:Int),((0:Int),[])))).1.2.1,ci (List.getD x (Int.toNat s.2) ((zz3,zz3),((0:Int),((0:Int),[])))).1.2.2.1,ci (List.getD x (Int.toNat s.2) ((zz3,zz3),((0:Int),((0:Int),[])))).1.2.2.2,ci (List.getD x (Int.toNat s.2) ((zz3,zz3),((0:Int),((0:Int),[])))).2.1,ci (List.getD x (Int.toNat s.2) ((zz3,zz3),((0:Int),((0:Int),[])))).2.2.1,.full 8]),vb true,vb false],[.row (Ty.prod (Ty.prod yy3 yy3) (Ty.prod yi (Ty.prod yi (Ty.sl yi)))) x 0,.cells [.full 0] 23,.row yi y 2,.cells [.full 2] 28,.gone,.cells [.full 0] 23,.loop g0 LoopState.ready Option.none,.pin g1 7,.row yi (List.getD x (Int.toNat s.2) ((zz3,zz3),((0:Int),((0:Int),[])))).2.2.2 0,.gone,.cells [ci (List.getD x (Int.toNat s.2) ((zz3,zz3),((0:Int),((0:Int),[])))).1.1.1,ci (List.getD x (Int.toNat s.2) ((zz3,zz3),((0:Int),((0:Int),[])))).1.1.2.1,ci (List.getD x (Int.toNat s.2) ((zz3,zz3),((0:Int),((0:Int),[])))).1.1.2.2,ci (List.getD x (Int.toNat s.2) ((zz3,zz3),((0:Int),((0:Int),[])))).1.2.1,ci (List.getD x (Int.toNat s.2) ((zz3,zz3),((0:Int),((0:Int),[])))).1.2.2.1,ci (List.getD x (Int.toNat s.2) ((zz3,zz3),((0:Int),((0:Int),[])))).1.2.2.2,ci (List.getD x (Int.toNat s.2) ((zz3,zz3),((0:Int),((0:Int),[])))).2.1,ci (List.getD x (Int.toNat s.2) ((zz3,zz3),((0:Int),((0:Int),[])))).2.2.1,.full 8] 34]⟩))))
 (Exists fun s0 : ((List Int) × ((List Int) × (Int × I3))) => Weak ⟨((d 0) :: .v (.one (.ptr 1 0)) :: (d 2) :: .v (.one (.ptr 3 0)) :: vi s.2 :: .v (.one (.ptr 10 0)) :: (d 6) :: (d 7) :: (d 8) :: (d 9) :: (d 10) :: (d 11) :: (d 12) :: (d 13) :: (d 14) :: (d 15) :: vi s.2 :: .v (.agg [ci (List.getD x (Int.toNat s.2) ((zz3,zz3),((0:Int),((0:Int),[])))).1.1.1,ci (List.getD x (Int.toNat s.2) ((zz3,zz3),((0:Int),((0:Int),[])))).1.1.2.1,ci (List.getD x (Int.toNat s.2) ((zz3,zz3),((0:Int),((0:Int),[])))).1.1.2.2,ci (List.getD x (Int.toNat s.2) ((zz3,zz3),((0:Int),((0:Int),[])))).1.2.1,ci (List.getD x (Int.toNat s.2) ((zz3,zz3),((0:Int),((0:Int),[])))).1.2.2.1,ci (List.getD x (Int.toNat s.2) ((zz3,zz3),((0:Int),((0:Int),[])))).1.2.2.2,ci (List.getD x (Int.toNat s.2) ((zz3,zz3),((0:Int),((0:Int),[])))).2.1,ci (List.getD x (Int.toNat s.2) ((zz3,zz3),((0:Int),((0:Int),[])))).2.2.1,.full 8]) :: .v (.one (.full 2)) :: vi s.2 :: .v (.one (.eptr 2 (Int.toNat s.2) 0)) :: .v (.agg [ci (List.getD x (Int.toNat s.2) ((zz3,zz3),((0:Int),((0:Int),[])))).1.1.1,ci (List.getD x (Int.toNat s.2) ((zz3,zz3),((0:Int),((0:Int),[])))).1.1.2.1,ci (List.getD x (Int.toNat s.2) ((zz3,zz3),((0:Int),((0:Int),[])))).1.1.2.2,ci (List.getD x (Int.toNat s.2) ((zz3,zz3),((0:Int),((0:Int),[])))).1.2.1,ci (List.getD x (Int.toNat s.2) ((zz3,zz3),((0:Int),((0:Int),[])))).1.2.2.1,ci (List.getD x (Int.toNat s.2) ((zz3,zz3),((0:Int),((0:Int),[])))).1.2.2.2,ci (List.getD x (Int.toNat s.2) ((zz3,zz3),((0:Int),((0:Int),[])))).2.1,ci (List.getD x (Int.toNat s.2) ((zz3,zz3),((0:Int),((0:Int),[])))).2.2.1,.full 8]) :: vi s.2 :: .v (.agg [ci (List.getD x (Int.toNat s.2) ((zz3,zz3),((0:Int),((0:Int),[])))).1.1.1,ci (List.getD x (Int.toNat s.2) ((zz3,zz3),((0:Int),((0:Int),[])))).1.1.2.1,ci (List.getD x (Int.toNat s.2) ((zz3,zz3),((0:Int),((0:Int),[])))).1.1.2.2,ci (List.getD x (Int.toNat s.2) ((zz3,zz3),((0:Int),((0:Int),[])))).1.2.1,ci (List.getD x (Int.toNat s.2) ((zz3,zz3),((0:Int),((0:Int),[])))).1.2.2.1,ci (List.getD x (Int.toNat s.2) ((zz3,zz3),((0:Int),((0:Int),[])))).1.2.2.2,ci (List.getD x (Int.toNat s.2) ((zz3,zz3),((0:Int),((0:Int),[])))).2.1,ci (List.getD x (Int.toNat s.2) ((zz3,zz3),((0:Int),((0:Int),[])))).2.2.1,.full 8,ci s.2]) :: vb y_1 :: .v (.one (.ptr 10 6)) :: vi (List.getD x (Int.toNat s.2) ((zz3,zz3),((0:Int),((0:Int),[])))).2.1 :: .v (.one (.ptr 10 7)) :: vi (List.getD x (Int.toNat s.2) ((zz3,zz3),((0:Int),((0:Int),[])))).2.2.1 :: .v (.one (.sl 11 0 2 2)) :: vi (2:Int) :: vi (0:Int) :: (d 32) :: (d 33) :: (d 34) :: (d 35) :: (d 36) :: (d 37) :: (d 38) :: (d 39) :: (d 40) :: (d 41) :: (d 42) :: (d 43) :: (d 44) :: (d 45) :: (d 46) :: (d 47) :: (d 48) :: (d 49) :: (d 50) :: (d 51) :: (d 52) :: (d 53) :: (d 54) :: (d 55) :: (d 56) :: (d 57) :: (d 58) :: (d 59) :: (d 60) :: []),[.row (Ty.prod (Ty.prod yy3 yy3) (Ty.prod yi (Ty.prod yi (Ty.sl yi)))) x 0,.cells [.full 0] 23,.row yi y 2,.cells [.full 2] 28,.gone,.cells [.full 0] 23,.loop g0 LoopState.busy Option.none,.pin g1 7,.row yi (List.getD x (Int.toNat s.2) ((zz3,zz3),((0:Int),((0:Int),[])))).2.2.2 0,.pin ρ1 9,.cells [ci (List.getD x (Int.toNat s.2) ((zz3,zz3),((0:Int),((0:Int),[])))).1.1.1,ci (List.getD x (Int.toNat s.2) ((zz3,zz3),((0:Int),((0:Int),[])))).1.1.2.1,ci (List.getD x (Int.toNat s.2) ((zz3,zz3),((0:Int),((0:Int),[])))).1.1.2.2,ci (List.getD x (Int.toNat s.2) ((zz3,zz3),((0:Int),((0:Int),[])))).1.2.1,ci (List.getD x (Int.toNat s.2) ((zz3,zz3),((0:Int),((0:Int),[])))).1.2.2.1,ci (List.getD x (Int.toNat s.2) ((zz3,zz3),((0:Int),((0:Int),[])))).1.2.2.2,ci (List.getD x (Int.toNat s.2) ((zz3,zz3),((0:Int),((0:Int),[])))).2.1,ci (List.getD x (Int.toNat s.2) ((zz3,zz3),((0:Int),((0:Int),[])))).2.2.1,.full 8] 34,.cells [ci (List.getD x (Int.toNat s.2) ((zz3,zz3),((0:Int),((0:Int),[])))).2.1,ci (List.getD x (Int.toNat s.2) ((zz3,zz3),((0:Int),((0:Int),[])))).2.2.1] 3]⟩ (depthT_l2_10_tm x g0 g1 ρ1 s0) ∧ Term (depthT_l2_10_step x) (depthT_l2_10_pre x) s0 ∧ ∀ r : ((List Int) × (List Int)),r = run (depthT_l2_10_step x) s0 →
 ((g0 = g0) ∧
 ((ρ1 = ρ1) ∧
 ((9 = 9) ∧
 (KB 0 K KN .normal ⟨[.v (.one (.yld 6)),.v (.one (.ptr 5 0)),D,vi (w64 (s.2 - (1:Int))),D,D,D,vi s.2,vb (decide (s.2 ≥ (0:Int))),vi s.2,vi (w64 (s.2 - (1:Int))),.v (.one (.yld 6)),vi s.2,.v (.one (.full 0)),vi s.2,.v (.one (.eptr 0 (Int.toNat s.2) 0)),.v (.agg [ci (List.getD x (Int.toNat s.2) ((zz3,zz3),((0:Int),((0:Int),[])))).1.1.1,ci (List.getD x (Int.toNat s.2) ((zz3,zz3),((0:Int),((0:Int),[])))).1.1.2.1,ci (List.getD x (Int.toNat s.2) ((zz3,zz3),((0:Int),((0:Int),[])))).1.1.2.2,ci (List.getD x (Int.toNat s.2) ((zz3,zz3),((0:Int),((0:Int),[])))).1.2.1,ci (List.getD x (Int.toNat s.2) ((zz3,zz3),((0:Int),((0:Int),[])))).1.2.2.1,ci (List.getD x (Int.toNat s.2) ((zz3,zz3),((0:Int),((0:Int),[])))).1.2.2.2,ci (List.getD x (Int.toNat s.2) ((zz3,zz3),((0:Int),((0:Int),[])))).2.1,ci (List.getD x (Int.toNat s.2) ((zz3,zz3),((0:Int),((0:Int),[])))).2.2.1,.full 8]),vb true,vb false],[.row (Ty.prod (Ty.prod yy3 yy3) (Ty.prod yi (Ty.prod yi (Ty.sl yi)))) x 0,.cells [.full 0] 23,.row yi r.1 2,.cells [.full 2] 28,.gone,.cells [.full 0] 23,.loop g0 LoopState.ready Option.none,.pin g1 7,.row yi r.2 0,.gone]⟩))))))))))))))))))))))
 (KB 0 K KN (.exit 0) ⟨[.v (.one (.yld 6)),.v (.one (.ptr 5 0)),D,vi s.2,D,D,D,vi s.2,vb (decide (s.2 ≥ (0:Int))),D,D,D,D,D,D,D,D,D,D],[.row (Ty.prod (Ty.prod yy3 yy3) (Ty.prod yi (Ty.prod yi (Ty.sl yi)))) x 0,.cells [.full 0] 23,.row yi s.1 2,.cells [.full 2] 28,.gone,.cells [.full 0] 23,.loop g0 LoopState.ready Option.none,.pin g1 7]⟩)) := by kernel_rfl
theorem depthT_w0l0_8_ok (x : (List ((I3 × I3) × (Int × (Int × (List Int)))))) (g0 : Loop) (g1 : Env) (t : Unit) (d : Nat → AV) : CertOk ⟨tt,sp_isT,noX,(depthT_y42_0 x (ysE 6 ((d 0) :: .v (.one (.ptr 1 0)) :: (d 2) :: .v (.one (.ptr 3 0)) :: (d 4) :: (d 5) :: (d 6) :: (d 7) :: (d 8) :: (d 9) :: (d 10) :: (d 11) :: (d 12) :: (d 13) :: (d 14) :: (d 15) :: (d 16) :: (d 17) :: (d 18) :: (d 19) :: (d 20) :: (d 21) :: (d 22) :: (d 23) :: (d 24) :: (d 25) :: (d 26) :: (d 27) :: (d 28) :: (d 29) :: (d 30) :: (d 31) :: (d 32) :: (d 33) :: (d 34) :: (d 35) :: (d 36) :: (d 37) :: (d 38) :: (d 39) :: (d 40) :: (d 41) :: (d 42) :: (d 43) :: (d 44) :: (d 45) :: (d 46) :: (d 47) :: (d 48) :: (d 49) :: (d 50) :: (d 51) :: (d 52) :: (d 53) :: (d 54) :: (d 55) :: (d 56) :: (d 57) :: (d 58) :: (d 59) :: (d 60) :: []) g0 g1 [16,17] (depthT_c x) Try.f10)),(ysE 6 ((d 0) :: .v (.one (.ptr 1 0)) :: (d 2) :: .v (.one (.ptr 3 0)) :: (d 4) :: (d 5) :: (d 6) :: (d 7) :: (d 8) :: (d 9) :: (d 10) :: (d 11) :: (d 12) :: (d 13) :: (d 14) :: (d 15) :: (d 16) :: (d 17) :: (d 18) :: (d 19) :: (d 20) :: (d 21) :: (d 22) :: (d 23) :: (d 24) :: (d 25) :: (d 26) :: (d 27) :: (d 28) :: (d 29) :: (d 30) :: (d 31) :: (d 32) :: (d 33) :: (d 34) :: (d 35) :: (d 36) :: (d 37) :: (d 38) :: (d 39) :: (d 40) :: (d 41) :: (d 42) :: (d 43) :: (d 44) :: (d 45) :: (d 46) :: (d 47) :: (d 48) :: (d 49) :: (d 50) :: (d 51) :: (d 52) :: (d 53) :: (d 54) :: (d 55) :: (d 56) :: (d 57) :: (d 58) :: (d 59) :: (d 60) :: []) g0 g1 [16,17] (depthT_c x) Try.f10),((25,itFn tt sp_isT noX (fun ys => []) [] Try.f25) :: [])⟩ (.loop (cI (blk 0 (bodyOf Try.f42)))) 0 (depthT_w0l0_8_sp x g0 g1 t) := LOk.certOk fun st K hk => loopSp_okV (fun s K KN hp hq => .eq (depthT_w0l0_8_vc x g0 g1 t d s K KN) (have hp := Eq.mp (depthT_w0l0_8_pre.eq_1 x t s) hp; have hq := Eq.mp (congrArg (stepQ (depthT_w0l0_8_tm x g0 g1) (depthT_w0l0_8_out x g0 g1) K KN) (depthT_w0l0_8_step.eq_1 x t s)) hq;
 (cB_d (Q := (stepQ (depthT_w0l0_8_tm x g0 g1) (depthT_w0l0_8_out x g0 g1) K KN)) hq (fun c hq => have hp := (hp c); (ob_k (and_t (decide_eq_true hp.1.1) (decide_eq_true hp.1.2)) (have hp := hp.2; (ob_k (decide_eq_true hp.1) (have hp := hp.2; (ob_k (decide_eq_true hp.1) (have hp := hp.2; (And.intro rfl (And.intro rfl (And.intro rfl (And.intro rfl (fun ρ1 => (And.intro rfl (And.intro rfl (And.intro rfl (ob_k (and_t (decide_eq_true hp.1.1) (decide_eq_true hp.1.2)) (have hp := hp.2; (ob_k (decide_eq_true hp.1) (have hp := hp.2; (ob_k (decide_eq_true hp.1) (have hp := hp.2; (And.intro trivial (let_k (Q := (stepQ (depthT_w0l0_8_tm x g0 g1) (depthT_w0l0_8_out x g0 g1) K KN)) hp hq fun y hp hq => (And.intro trivial (let_k (Q := (stepQ (depthT_w0l0_8_tm x g0 g1) (depthT_w0l0_8_out x g0 g1) K KN)) hp hq fun y_1 hp hq => (cB_b (Q := (stepQ (depthT_w0l0_8_tm x g0 g1) (depthT_w0l0_8_out x g0 g1) K KN)) hq (fun c hq => (And.intro rfl (And.intro rfl (And.intro rfl (Exists.intro (depthT_w0l0_8_tm x g0 g1 (y,(w64 (s.2 - (1:Int))))) (And.intro (ren_ok (π := [.same 0,.same 1,.same 2,.same 3,.same 4,.same 5,.same 6,.same 7]) (And.intro rfl (And.intro rfl (And.intro rfl trivial))) (And.intro (ren_same rfl rfl) (And.intro (ren_same rfl rfl) (And.intro (ren_same rfl rfl) (And.intro (ren_same rfl rfl) (And.intro (ren_same rfl rfl) (And.intro (ren_same rfl rfl) (And.intro (ren_same rfl rfl) trivial))))))) rfl) hq)))))) (fun c hq => have hp := (hp c); (Exists.intro (y,((List.getD x (Int.toNat s.2) ((((0:Int),((0:Int),(0:Int))),((0:Int),((0:Int),(0:Int)))),((0:Int),((0:Int),[])))).2.2.2,(s.2,((List.getD x (Int.toNat s.2) ((((0:Int),((0:Int),(0:Int))),((0:Int),((0:Int),(0:Int)))),((0:Int),((0:Int),[])))).2.1,((List.getD x (Int.toNat s.2) ((((0:Int),((0:Int),(0:Int))),((0:Int),((0:Int),(0:Int)))),((0:Int),((0:Int),[])))).2.2.1,(0:Int)))))) (And.intro (ren_ok (π := [.same 0,.same 1,.same 2,.same 3,.same 4,.same 5,.same 6,.same 7,.same 8,.same 9,.same 11]) (And.intro rfl (And.intro rfl (And.intro rfl (And.intro rfl (And.intro rfl (And.intro rfl trivial)))))) (And.intro (ren_same rfl rfl) (And.intro (ren_same rfl rfl) (And.intro (ren_same rfl rfl) (And.intro (ren_same rfl rfl) (And.intro (ren_same rfl rfl) (And.intro (ren_same rfl rfl) (And.intro (ren_same rfl rfl) (And.intro (ren_same rfl rfl) (And.intro (ren_same rfl rfl) (And.intro (ren_same rfl rfl) trivial)))))))))) rfl) (And.intro hp (let_0 (Q := (stepQ (depthT_w0l0_8_tm x g0 g1) (depthT_w0l0_8_out x g0 g1) K KN)) hq fun r hq => (And.intro rfl (And.intro rfl (And.intro rfl (Exists.intro (depthT_w0l0_8_tm x g0 g1 (r.1,(w64 (s.2 - (1:Int))))) (And.intro (ren_ok (π := [.same 0,.same 1,.same 2,.same 3,.same 4,.same 5,.same 6,.same 7]) (And.intro rfl (And.intro rfl (And.intro rfl trivial))) (And.intro (ren_same rfl rfl) (And.intro (ren_same rfl rfl) (And.intro (ren_same rfl rfl) (And.intro (ren_same rfl rfl) (And.intro (ren_same rfl rfl) (And.intro (ren_same rfl rfl) (And.intro (ren_same rfl rfl) trivial))))))) rfl) hq)))))))))))))))))))))))))))))))))))) (fun c hq => (Exists.intro ⟨[D,D,D,D,D,D,D,D,D,D,D,D,D,D,D,D,D,D,D],[.row (Ty.prod (Ty.prod yy3 yy3) (Ty.prod yi (Ty.prod yi (Ty.sl yi)))) x 0,.cells [.full 0] 23,.row yi s.1 2,.cells [.full 2] 28,.gone,.cells [.full 0] 23,.loop g0 LoopState.ready Option.none,.pin g1 7]⟩ (And.intro (ren_ok (π := [.same 0,.same 1,.same 2,.same 3,.same 4,.same 5,.same 6,.same 7]) trivial (And.intro (ren_same rfl rfl) (And.intro (ren_same rfl rfl) (And.intro (ren_same rfl rfl) (And.intro (ren_same rfl rfl) (And.intro (ren_same rfl rfl) (And.intro (ren_same rfl rfl) (And.intro (ren_same rfl rfl) trivial))))))) rfl) hq)))))) st K hk
theorem depthT_y42_0_ok (x : (List ((I3 × I3) × (Int × (Int × (List Int)))))) : ∀ ys,YsOk Try.prog ys → LpsOk Try.prog noX (bodyOf Try.f42) (depthT_y42_0 x ys) := fun ys hy => LpsOk.nil
theorem depthT_y42_1_ok (x : (List ((I3 × I3) × (Int × (Int × (List Int)))))) : ∀ ys,YsOk Try.prog ys → LpsOk Try.prog noX (bodyOf Try.f42) (depthT_y42_1 x ys) := fun ys hy => LpsOk.consL tt_ok ⟨sp_isT_ok,hy,(ItsOk.cons (Enters.of (fn := Try.f25) (by kernel_rfl) (by kernel_rfl) (by kernel_rfl)) (ISpecOk.fn tt_ok sp_isT_ok mixed (fn := Try.f25) (by kernel_rfl) (by kernel_rfl) (ItsOk.nil _ _) (fun ys hy => LpsOk.nil)) (ItsOk.nil _ _))⟩ mixed (depthT_y42_0_ok x ys hy) (by kernel_rfl) (by kernel_rfl) (LOk.cons (LOk.atLoop fun g0 => LOk.atPin fun g1 => LOk.cert) LOk.nil)
def depthT (x : (List ((I3 × I3) × (Int × (Int × (List Int)))))) : Int :=
 (if (((x.length:Int) == (0:Int)) = true) then
 (0:Int) else
 (letV (run (depthT_w0l0_8_step x ()) ((List.replicate (List.length x) (0:Int)),(w64 ((x.length:Int) - (1:Int))))) fun r_1 =>
 (List.getD r_1 0 (0:Int))))
def depthT_pre (x : (List ((I3 × I3) × (Int × (Int × (List Int)))))) : Prop :=
 (¬ (((x.length:Int) == (0:Int)) = true) →
 ((((x.length:Int) ≤ (x.length:Int)) ∧ ((List.length x) < 1099511627776)) ∧
 (Term (depthT_w0l0_8_step x ()) (depthT_w0l0_8_pre x ()) ((List.replicate (List.length x) (0:Int)),(w64 ((x.length:Int) - (1:Int)))) ∧
 letP (run (depthT_w0l0_8_step x ()) ((List.replicate (List.length x) (0:Int)),(w64 ((x.length:Int) - (1:Int))))) fun r_1 =>
 (((0:Int) < (r_1.length:Int)) ∧
 ((0 < (List.length r_1)) ∧
 (0 < (List.length r_1)))))))
theorem depthT_vc (x : (List ((I3 × I3) × (Int × (Int × (List Int)))))) (Q : Int → Prop) : fnE ⟨tt,sp_isT,noX,((2,altL [(10,atLoop 6 fun g0 => atPin 7 fun g1 => atPin 9 fun g2 => depthT_l2_10_sp x g0 g1 g2)]) :: []),[],((42,itFn tt sp_isT noX (depthT_y42_1 x) ((25,itFn tt sp_isT noX (fun ys => []) [] Try.f25) :: []) Try.f42) :: ((25,itFn tt sp_isT noX (fun ys => []) [] Try.f25) :: []))⟩ Try.f10 (argsE (.one (Ty.sl (Ty.prod (Ty.prod yy3 yy3) (Ty.prod yi (Ty.prod yi (Ty.sl yi)))))) x) (heapE (.one (Ty.sl (Ty.prod (Ty.prod yy3 yy3) (Ty.prod yi (Ty.prod yi (Ty.sl yi)))))) x) (retE (.one yi) Q) =
 (cB ((x.length:Int) == (0:Int))
 (Q (0:Int))
 (ob (((decide ((0:Int) ≤ (x.length:Int))) && (decide ((x.length:Int) ≤ (x.length:Int)))) && (decide ((List.length x) < 1099511627776)))
 (∀ ρ1 : Env,
 ((ρ1 = ρ1) ∧
 ((4 = 4) ∧
 (∀ r : Loop,
 (∀ ρ0 : Env,
 (Exists fun tq : Unit × (Nat → AV) => CertOk ⟨tt,sp_isT,noX,(depthT_y42_0 x (ysE 6 (.v (.one (.full 0)) :: .v (.one (.ptr 1 0)) :: vi (0:Int) :: .v (.one (.ptr 3 0)) :: und :: und :: und :: und :: .v (.one (.full 0)) :: vi (x.length:Int) :: vb ((x.length:Int) == (0:Int)) :: .v (.one (.full 0)) :: vi (x.length:Int) :: .v (.one (.full 2)) :: .v (.one (.full 0)) :: .v (.one (.clo (Fn.func 42) [] [(Ref.loc 5 0)])) :: und :: und :: und :: und :: und :: und :: und :: und :: und :: und :: und :: und :: und :: und :: und :: und :: und :: und :: und :: und :: und :: und :: und :: und :: und :: und :: und :: und :: und :: und :: und :: und :: und :: und :: und :: und :: und :: und :: und :: und :: und :: und :: und :: und :: und :: []) r ρ0 [16,17] (depthT_c x) Try.f10)),(ysE 6 (.v (.one (.full 0)) :: .v (.one (.ptr 1 0)) :: vi (0:Int) :: .v (.one (.ptr 3 0)) :: und :: und :: und :: und :: .v (.one (.full 0)) :: vi (x.length:Int) :: vb ((x.length:Int) == (0:Int)) :: .v (.one (.full 0)) :: vi (x.length:Int) :: .v (.one (.full 2)) :: .v (.one (.full 0)) :: .v (.one (.clo (Fn.func 42) [] [(Ref.loc 5 0)])) :: und :: und :: und :: und :: und :: und :: und :: und :: und :: und :: und :: und :: und :: und :: und :: und :: und :: und :: und :: und :: und :: und :: und :: und :: und :: und :: und :: und :: und :: und :: und :: und :: und :: und :: und :: und :: und :: und :: und :: und :: und :: und :: und :: und :: und :: []) r ρ0 [16,17] (depthT_c x) Try.f10),((25,itFn tt sp_isT noX (fun ys => []) [] Try.f25) :: [])⟩ (.loop (cI (blk 0 (bodyOf Try.f42)))) 0 (depthT_w0l0_8_sp x r ρ0 tq.1) ∧ (Exists fun s0 : ((List Int) × Int) => Weak ⟨[.v (.one (.yld 6)),.v (.one (.ptr 5 0)),und,vi (w64 ((x.length:Int) - (1:Int))),.v (.one (.full 0)),vi (x.length:Int),vi (w64 ((x.length:Int) - (1:Int))),und,und,und,und,und,und,und,und,und,und,und,und],[.row (Ty.prod (Ty.prod yy3 yy3) (Ty.prod yi (Ty.prod yi (Ty.sl yi)))) x 0,.cells [.full 0] 23,.row yi (List.replicate (List.length x) (0:Int)) 2,.cells [.full 2] 28,.gone,.cells [.full 0] 23,.loop r LoopState.ready Option.none,.pin ρ0 7]⟩ (depthT_w0l0_8_tm x r ρ0 s0) ∧ Term (depthT_w0l0_8_step x tq.1) (depthT_w0l0_8_pre x tq.1) s0 ∧ ∀ r_1 : (List Int),r_1 = run (depthT_w0l0_8_step x tq.1) s0 →
 ((ρ0 = ρ0) ∧
 ((7 = 7) ∧
 (ob (true && (decide ((0:Int) < (r_1.length:Int))))
 (ob (decide (0 < (List.length r_1)))
 (ob (decide (0 < (List.length r_1)))
 (Q (List.getD r_1 0 (0:Int))))))))))))))))) := by kernel_rfl
theorem depthT_fn (x : (List ((I3 × I3) × (Int × (Int × (List Int)))))) (Q : Int → Prop) (hp : depthT_pre x) (hq : Q (depthT x)) : Vc (fnE ⟨tt,sp_isT,noX,((2,altL [(10,atLoop 6 fun g0 => atPin 7 fun g1 => atPin 9 fun g2 => depthT_l2_10_sp x g0 g1 g2)]) :: []),[],((42,itFn tt sp_isT noX (depthT_y42_1 x) ((25,itFn tt sp_isT noX (fun ys => []) [] Try.f25) :: []) Try.f42) :: ((25,itFn tt sp_isT noX (fun ys => []) [] Try.f25) :: []))⟩ Try.f10 (argsE (.one (Ty.sl (Ty.prod (Ty.prod yy3 yy3) (Ty.prod yi (Ty.prod yi (Ty.sl yi)))))) x) (heapE (.one (Ty.sl (Ty.prod (Ty.prod yy3 yy3) (Ty.prod yi (Ty.prod yi (Ty.sl yi)))))) x) (retE (.one yi) Q)) := .eq (depthT_vc x Q) (have hp := Eq.mp (depthT_pre.eq_1 x) hp; have hq := Eq.mp (congrArg Q (depthT.eq_1 x)) hq;
 (cB_b (Q := Q) hq (fun c hq => hq) (fun c hq => have hp := (hp c); (ob_k (and_t (and_t rfl (decide_eq_true hp.1.1)) (decide_eq_true hp.1.2)) (have hp := hp.2; (fun ρ1 => (And.intro rfl (And.intro rfl (fun r => (fun ρ0 => (Exists.intro ( (),(nthD (.v (.one (.full 0)) :: .v (.one (.ptr 1 0)) :: vi (0:Int) :: .v (.one (.ptr 3 0)) :: und :: und :: und :: und :: .v (.one (.full 0)) :: vi (x.length:Int) :: vb ((x.length:Int) == (0:Int)) :: .v (.one (.full 0)) :: vi (x.length:Int) :: .v (.one (.full 2)) :: .v (.one (.full 0)) :: .v (.one (.clo (Fn.func 42) [] [(Ref.loc 5 0)])) :: und :: und :: und :: und :: und :: und :: und :: und :: und :: und :: und :: und :: und :: und :: und :: und :: und :: und :: und :: und :: und :: und :: und :: und :: und :: und :: und :: und :: und :: und :: und :: und :: und :: und :: und :: und :: und :: und :: und :: und :: und :: und :: und :: und :: und :: []))) (And.intro (depthT_w0l0_8_ok x r ρ0 () (nthD (.v (.one (.full 0)) :: .v (.one (.ptr 1 0)) :: vi (0:Int) :: .v (.one (.ptr 3 0)) :: und :: und :: und :: und :: .v (.one (.full 0)) :: vi (x.length:Int) :: vb ((x.length:Int) == (0:Int)) :: .v (.one (.full 0)) :: vi (x.length:Int) :: .v (.one (.full 2)) :: .v (.one (.full 0)) :: .v (.one (.clo (Fn.func 42) [] [(Ref.loc 5 0)])) :: und :: und :: und :: und :: und :: und :: und :: und :: und :: und :: und :: und :: und :: und :: und :: und :: und :: und :: und :: und :: und :: und :: und :: und :: und :: und :: und :: und :: und :: und :: und :: und :: und :: und :: und :: und :: und :: und :: und :: und :: und :: und :: und :: und :: und :: []))) (Exists.intro ((List.replicate (List.length x) (0:Int)),(w64 ((x.length:Int) - (1:Int)))) (And.intro (ren_ok (π := [.same 0,.same 1,.same 2,.same 3,.same 4,.same 5,.same 6,.same 7]) (And.intro rfl (And.intro rfl (And.intro rfl trivial))) (And.intro (ren_same rfl rfl) (And.intro (ren_same rfl rfl) (And.intro (ren_same rfl rfl) (And.intro (ren_same rfl rfl) (And.intro (ren_same rfl rfl) (And.intro (ren_same rfl rfl) (And.intro (ren_same rfl rfl) trivial))))))) rfl) (And.intro hp.1 (let_k (Q := Q) hp.2 hq fun r_1 hp hq => (And.intro rfl (And.intro rfl (ob_k (and_t rfl (decide_eq_true hp.1)) (have hp := hp.2; (ob_k (decide_eq_true hp.1) (have hp := hp.2; (ob_k (decide_eq_true hp) hq)))))))))))))))))))))))
abbrev depthT_S : FnS := ⟨(.one (Ty.sl (Ty.prod (Ty.prod yy3 yy3) (Ty.prod yi (Ty.prod yi (Ty.sl yi)))))),(.one yi),depthT_pre,depthT⟩
theorem depthT_ok : SpecOk Try.prog 10 (fnSpec depthT_S) := SpecOk.fnT' (fn := Try.f10) tt_ok sp_isT_ok mixed (by kernel_rfl) (by kernel_rfl) (.one (Ty.sl (Ty.prod (Ty.prod yy3 yy3) (Ty.prod yi (Ty.prod yi (Ty.sl yi)))))) (.one yi) depthT_pre depthT (by kernel_rfl) fun x hp => ⟨_,_,(ItsOk.cons (Enters.of (fn := Try.f42) (by kernel_rfl) (by kernel_rfl) (by kernel_rfl)) (ISpecOk.fn tt_ok sp_isT_ok mixed (fn := Try.f42) (by kernel_rfl) (by kernel_rfl) (ItsOk.cons (Enters.of (fn := Try.f25) (by kernel_rfl) (by kernel_rfl) (by kernel_rfl)) (ISpecOk.fn tt_ok sp_isT_ok mixed (fn := Try.f25) (by kernel_rfl) (by kernel_rfl) (ItsOk.nil _ _) (fun ys hy => LpsOk.nil)) (ItsOk.nil _ _)) (depthT_y42_1_ok x)) (ItsOk.cons (Enters.of (fn := Try.f25) (by kernel_rfl) (by kernel_rfl) (by kernel_rfl)) (ISpecOk.fn tt_ok sp_isT_ok mixed (fn := Try.f25) (by kernel_rfl) (by kernel_rfl) (ItsOk.nil _ _) (fun ys hy => LpsOk.nil)) (ItsOk.nil _ _))),(LpsOk.consL tt_ok (SpecsOk.ctxI sp_isT_ok (ItsOk.cons (Enters.of (fn := Try.f42) (by kernel_rfl) (by kernel_rfl) (by kernel_rfl)) (ISpecOk.fn tt_ok sp_isT_ok mixed (fn := Try.f42) (by kernel_rfl) (by kernel_rfl) (ItsOk.cons (Enters.of (fn := Try.f25) (by kernel_rfl) (by kernel_rfl) (by kernel_rfl)) (ISpecOk.fn tt_ok sp_isT_ok mixed (fn := Try.f25) (by kernel_rfl) (by kernel_rfl) (ItsOk.nil _ _) (fun ys hy => LpsOk.nil)) (ItsOk.nil _ _)) (depthT_y42_1_ok x)) (ItsOk.cons (Enters.of (fn := Try.f25) (by kernel_rfl) (by kernel_rfl) (by kernel_rfl)) (ISpecOk.fn tt_ok sp_isT_ok mixed (fn := Try.f25) (by kernel_rfl) (by kernel_rfl) (ItsOk.nil _ _) (fun ys hy => LpsOk.nil)) (ItsOk.nil _ _)))) mixed LpsOk.nil (by kernel_rfl) (by kernel_rfl) (LOk.cons (LOk.atLoop fun g0 => LOk.atPin fun g1 => LOk.atPin fun g2 => depthT_l2_10_ok x g0 g1 g2) LOk.nil)),depthT_fn x (fun y => y = depthT x) hp rfl⟩
def sp_depthT : List (Nat × Ev.Spec) := (10,fnSpec depthT_S) :: sp_isT
theorem sp_depthT_ok : SpecsOk Try.prog sp_depthT := SpecsOk.add (fn := Try.f10) (by kernel_rfl) depthT_ok sp_isT_ok
end Go.Proofs.Ytaipcbdilkcdbaa
