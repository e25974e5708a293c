/- Models of law 14's EdgeParts. -/
import Derived.Test.YtleemdeodmdnkaaEg
noncomputable section
set_option linter.unusedSectionVars false
set_option linter.unusedVariables false
set_option linter.unusedSimpArgs false
namespace Go.Proofs.Ytleemdeodmdnkaa
open Go Go.Ev Go.Proofs
def edgeParts_l0 (x : (((List I3) × ((List I2) × ((List I3) × (List I9)))) × I3)) : LoopD := ⟨[],⟨pvs 159 0 [(1,.v (.one (.i .i64))),(2,.v (.one (.i .i64))),(3,.v (.one (.i .i64))),(4,.v (.one (.ptr 0 0))),(9,.v (.one (.full 5))),(11,.v (.one (.i .i64)))],[.cells [.full 1,.full 2,.full 3,.full 4] 26,.row yy3 0,.row yy2 0,.row yy3 0,.row yy9 0,.row yi 2],0,none,[],[0,1,2,4,5,6,7],[8,3],[(.l yi),.i],[.i x.2.1,.i x.2.2.1,.i x.2.2.2,.l yy3 x.1.1,.l yy2 x.1.2.1,.l yy3 x.1.2.2.1,.l yy9 x.1.2.2.2]⟩,[⟨.ret,.ret,⟨pvs 159 0 [(8,.v (.one (.b)))],[],0,none,[],[0],[],[],[.b false]⟩⟩,⟨(.exit 0),.normal,⟨pvs 159 0 [(1,.v (.one (.i .i64))),(2,.v (.one (.i .i64))),(3,.v (.one (.i .i64))),(4,.v (.one (.ptr 0 0))),(9,.v (.one (.full 5)))],[.cells [.full 1,.full 2,.full 3,.full 4] 26,.row yy3 0,.row yy2 0,.row yy3 0,.row yy9 0,.row yi 2],0,none,[],[0,1,2,3,4,5,6],[7],[(.l yi)],[.i x.2.1,.i x.2.2.1,.i x.2.2.2,.l yy3 x.1.1,.l yy2 x.1.2.1,.l yy3 x.1.2.2.1,.l yy9 x.1.2.2.2]⟩⟩]⟩
def edgeParts_l0_step (x : (((List I3) × ((List I2) × ((List I3) × (List I9)))) × I3)) (s : ((List Int) × Int)) : ((List Int) × Int) ⊕ (Unit ⊕ (List Int)) :=
 (if (s.2 < (s.1.length:Int)) then
 (if ((List.getD s.1 (Int.toNat s.2) (0:Int)) < (0:Int)) then
 (Sum.inr (Sum.inl ())) else
 (if ((List.getD s.1 (Int.toNat s.2) (0:Int)) > s.2) then
 (Sum.inr (Sum.inl ())) else
 (if (((List.getD s.1 (Int.toNat (List.getD s.1 (Int.toNat s.2) (0:Int))) (0:Int)) != (List.getD s.1 (Int.toNat s.2) (0:Int))) = true) then
 (Sum.inr (Sum.inl ())) else
 (Sum.inl (s.1,(w64 (s.2 + (1:Int)))))))) else
 (Sum.inr (Sum.inr (s.1))))
def edgeParts_l0_pre (x : (((List I3) × ((List I2) × ((List I3) × (List I9)))) × I3)) (s : ((List Int) × Int)) : Prop :=
 ((s.2 < (s.1.length:Int)) →
 ((((0:Int) ≤ s.2) ∧ (s.2 < (s.1.length:Int))) ∧
 (((Int.toNat s.2) < (List.length s.1)) ∧
 (((Int.toNat s.2) < (List.length s.1)) ∧
 (¬ ((List.getD s.1 (Int.toNat s.2) (0:Int)) < (0:Int)) →
 ((((0:Int) ≤ s.2) ∧ (s.2 < (s.1.length:Int))) ∧
 (((Int.toNat s.2) < (List.length s.1)) ∧
 (((Int.toNat s.2) < (List.length s.1)) ∧
 (¬ ((List.getD s.1 (Int.toNat s.2) (0:Int)) > s.2) →
 ((((0:Int) ≤ s.2) ∧ (s.2 < (s.1.length:Int))) ∧
 (((Int.toNat s.2) < (List.length s.1)) ∧
 (((Int.toNat s.2) < (List.length s.1)) ∧
 ((((0:Int) ≤ (List.getD s.1 (Int.toNat s.2) (0:Int))) ∧ ((List.getD s.1 (Int.toNat s.2) (0:Int)) < (s.1.length:Int))) ∧
 (((Int.toNat (List.getD s.1 (Int.toNat s.2) (0:Int))) < (List.length s.1)) ∧
 (((Int.toNat (List.getD s.1 (Int.toNat s.2) (0:Int))) < (List.length s.1)) ∧
 ((((0:Int) ≤ s.2) ∧ (s.2 < (s.1.length:Int))) ∧
 (((Int.toNat s.2) < (List.length s.1)) ∧
 ((Int.toNat s.2) < (List.length s.1)))))))))))))))))))
def edgeParts_l0_t (x : (((List I3) × ((List I2) × ((List I3) × (List I9)))) × I3)) (s : ((List Int) × Int)) : Tr (((List Int) × Int) ⊕ (Unit ⊕ (List Int))) true :=
 (.i10 (s.2 < (nL s.1))
 (.oI2 s.2 s.1
 (.i01 ((gI s.1 s.2) < z0)
 (.ret (.inr (Sum.inl ())))
 (.oI2 s.2 s.1
 (.i01 ((gI s.1 s.2) > s.2)
 (.ret (.inr (Sum.inl ())))
 (.oI2 s.2 s.1
 (.oI2 (gI s.1 s.2) s.1
 (.oI2 s.2 s.1
 (.b00 ((gI s.1 (gI s.1 s.2)) != (gI s.1 s.2))
 (.ret (.inr (Sum.inl ())))
 (.ret (.inl (s.1,(w1 s.2))))))))))))
 (.ret (.inr (Sum.inr (s.1)))))
def edgeParts_l4 (x : (((List I3) × ((List I2) × ((List I3) × (List I9)))) × I3)) : LoopD := ⟨[],⟨pvs 159 0 [(9,.v (.one (.full 0))),(13,.v (.one (.full 1))),(15,.v (.one (.i .i64))),(16,.v (.one (.i .i64)))],[.row yi 2,.row yi 2],0,none,[],[],[2,3,0,1],[(.l yi),(.l yi),.i,.i],[]⟩,[⟨.ret,.ret,⟨pvs 159 0 [(8,.v (.one (.b)))],[],0,none,[],[0],[],[],[.b false]⟩⟩,⟨(.exit 4),.normal,⟨pvs 159 0 [(9,.v (.one (.full 0))),(13,.v (.one (.full 1))),(15,.v (.one (.i .i64)))],[.row yi 2,.row yi 2],0,none,[],[],[1,2,0],[(.l yi),(.l yi),.i],[]⟩⟩]⟩
def edgeParts_l4_step (x : (((List I3) × ((List I2) × ((List I3) × (List I9)))) × I3)) (s : ((List Int) × ((List Int) × I2))) : ((List Int) × ((List Int) × I2)) ⊕ (Unit ⊕ ((List Int) × ((List Int) × Int))) :=
 (if (s.2.2.2 < (s.1.length:Int)) then
 (if (((List.getD s.1 (Int.toNat s.2.2.1) (0:Int)) == (List.getD s.1 (Int.toNat s.2.2.2) (0:Int))) = true) then
 (if (((List.getD s.2.1 (Int.toNat s.2.2.1) (0:Int)) != (List.getD s.2.1 (Int.toNat s.2.2.2) (0:Int))) = true) then
 (Sum.inr (Sum.inl ())) else
 (Sum.inl (s.1,(s.2.1,(s.2.2.1,(w64 (s.2.2.2 + (1:Int)))))))) else
 (Sum.inl (s.1,(s.2.1,(s.2.2.1,(w64 (s.2.2.2 + (1:Int)))))))) else
 (Sum.inr (Sum.inr ((s.1,(s.2.1,s.2.2.1))))))
def edgeParts_l4_pre (x : (((List I3) × ((List I2) × ((List I3) × (List I9)))) × I3)) (s : ((List Int) × ((List Int) × I2))) : Prop :=
 ((s.2.2.2 < (s.1.length:Int)) →
 ((((0:Int) ≤ s.2.2.1) ∧ (s.2.2.1 < (s.1.length:Int))) ∧
 (((Int.toNat s.2.2.1) < (List.length s.1)) ∧
 (((Int.toNat s.2.2.1) < (List.length s.1)) ∧
 ((((0:Int) ≤ s.2.2.2) ∧ (s.2.2.2 < (s.1.length:Int))) ∧
 (((Int.toNat s.2.2.2) < (List.length s.1)) ∧
 (((Int.toNat s.2.2.2) < (List.length s.1)) ∧
 ((((List.getD s.1 (Int.toNat s.2.2.1) (0:Int)) == (List.getD s.1 (Int.toNat s.2.2.2) (0:Int))) = true) →
 ((((0:Int) ≤ s.2.2.1) ∧ (s.2.2.1 < (s.2.1.length:Int))) ∧
 (((Int.toNat s.2.2.1) < (List.length s.2.1)) ∧
 (((Int.toNat s.2.2.1) < (List.length s.2.1)) ∧
 ((((0:Int) ≤ s.2.2.2) ∧ (s.2.2.2 < (s.2.1.length:Int))) ∧
 (((Int.toNat s.2.2.2) < (List.length s.2.1)) ∧
 ((Int.toNat s.2.2.2) < (List.length s.2.1)))))))))))))))
def edgeParts_l4_t (x : (((List I3) × ((List I2) × ((List I3) × (List I9)))) × I3)) (s : ((List Int) × ((List Int) × I2))) : Tr (((List Int) × ((List Int) × I2)) ⊕ (Unit ⊕ ((List Int) × ((List Int) × Int)))) true :=
 (.i10 (s.2.2.2 < (nL s.1))
 (.oI2 s.2.2.1 s.1
 (.oI2 s.2.2.2 s.1
 (.b10 ((gI s.1 s.2.2.1) == (gI s.1 s.2.2.2))
 (.oI2 s.2.2.1 s.2.1
 (.oI2 s.2.2.2 s.2.1
 (.b00 ((gI s.2.1 s.2.2.1) != (gI s.2.1 s.2.2.2))
 (.ret (.inr (Sum.inl ())))
 (.ret (.inl (s.1,(s.2.1,(s.2.2.1,(w1 s.2.2.2)))))))))
 (.ret (.inl (s.1,(s.2.1,(s.2.2.1,(w1 s.2.2.2)))))))))
 (.ret (.inr (Sum.inr ((s.1,(s.2.1,s.2.2.1)))))))
def edgeParts_l2 (x : (((List I3) × ((List I2) × ((List I3) × (List I9)))) × I3)) : LoopD := ⟨[],⟨pvs 159 0 [(9,.v (.one (.full 0))),(13,.v (.one (.full 1))),(15,.v (.one (.i .i64)))],[.row yi 2,.row yi 2],0,none,[],[],[1,2,0],[(.l yi),(.l yi),.i],[]⟩,[⟨.ret,.ret,⟨pvs 159 0 [(8,.v (.one (.b)))],[],0,none,[],[0],[],[],[.b false]⟩⟩,⟨(.exit 2),.normal,⟨pvs 159 0 [(9,.v (.one (.full 0))),(13,.v (.one (.full 1)))],[.row yi 2,.row yi 2],0,none,[],[],[0,1],[(.l yi),(.l yi)],[]⟩⟩]⟩
def edgeParts_l2_step (x : (((List I3) × ((List I2) × ((List I3) × (List I9)))) × I3)) (s : ((List Int) × ((List Int) × Int))) : ((List Int) × ((List Int) × Int)) ⊕ (Unit ⊕ ((List Int) × (List Int))) :=
 (if (s.2.2 < (s.1.length:Int)) then
 (letV (run (edgeParts_l4_step x) (s.1,(s.2.1,(s.2.2,(0:Int))))) fun r =>
 (Sum.elim (fun a =>
 (Sum.inr (Sum.inl ()))) (fun b =>
 (Sum.inl (b.1,(b.2.1,(w64 (b.2.2 + (1:Int))))))) r)) else
 (Sum.inr (Sum.inr ((s.1,s.2.1)))))
def edgeParts_l2_pre (x : (((List I3) × ((List I2) × ((List I3) × (List I9)))) × I3)) (s : ((List Int) × ((List Int) × Int))) : Prop :=
 ((s.2.2 < (s.1.length:Int)) →
 (Term (edgeParts_l4_step x) (edgeParts_l4_pre x) (s.1,(s.2.1,(s.2.2,(0:Int))))))
def edgeParts_l2_t (x : (((List I3) × ((List I2) × ((List I3) × (List I9)))) × I3)) (s : ((List Int) × ((List Int) × Int))) : Tr (((List Int) × ((List Int) × Int)) ⊕ (Unit ⊕ ((List Int) × (List Int)))) true :=
 (.i10 (s.2.2 < (nL s.1))
 (LoopD.lp (edgeParts_l4 x) (edgeParts_l4_t x) (s.1,(s.2.1,(s.2.2,z0))) fun r =>
 (.s00 r (fun a =>
 (.ret (.inr (Sum.inl ())))) (fun b =>
 (.ret (.inl (b.1,(b.2.1,(w1 b.2.2))))))))
 (.ret (.inr (Sum.inr ((s.1,s.2.1))))))
def edgeParts (x : (((List I3) × ((List I2) × ((List I3) × (List I9)))) × I3)) : Bool :=
 (letV (few14 x.1) fun y =>
 (if ((!y) = true) then
 true else
 (if ((x.1.2.2.2.length:Int) > (15:Int)) then
 true else
 (letV (eparts x.1) fun y_1 =>
 (if ((y_1.2 != (0:Int)) = true) then
 (letV (edged false) fun y_2 =>
 (if (y_2 = true) then
 ((y_1.1.length:Int) == (0:Int)) else
 false)) else
 (letV (run (edgeParts_l0_step x) (y_1.1,(0:Int))) fun r =>
 (Sum.elim (fun a =>
 false) (fun b =>
 (letV (three x.2) fun y_2 =>
 (letV (eparts (([] ++ x.1.1),(([] ++ x.1.2.1),(([] ++ x.1.2.2.1),(([] ++ x.1.2.2.2) ++ [y_2]))))) fun y_3 =>
 (if ((y_3.2 != (0:Int)) = true) then
 (letV (edged false) fun y_4 =>
 (if (y_4 = true) then
 (letV (meshis (([] ++ x.1.1),(([] ++ x.1.2.1),(([] ++ x.1.2.2.1),(([] ++ x.1.2.2.2) ++ [y_2]))))) fun y_5 =>
 (!y_5)) else
 false)) else
 (letV (run (edgeParts_l2_step x) (b,(y_3.1,(0:Int)))) fun r_1 =>
 (Sum.elim (fun a =>
 false) (fun b_1 =>
 (letV (edged false) fun y_4 =>
 (if (y_4 = true) then
 ((b_1.2.length:Int) == (w64 ((b_1.1.length:Int) + (1:Int)))) else
 false))) r_1)))))) r)))))))
def edgeParts_pre (x : (((List I3) × ((List I2) × ((List I3) × (List I9)))) × I3)) : Prop :=
 (letP (few14 x.1) fun y =>
 (¬ ((!y) = true) →
 (¬ ((x.1.2.2.2.length:Int) > (15:Int)) →
 ((eparts_pre x.1) ∧
 letP (eparts x.1) fun y_1 =>
 ((((y_1.2 != (0:Int)) = true) →
 (edged_pre false)) ∧
 (¬ ((y_1.2 != (0:Int)) = true) →
 (Term (edgeParts_l0_step x) (edgeParts_l0_pre x) (y_1.1,(0:Int)) ∧
 letP (run (edgeParts_l0_step x) (y_1.1,(0:Int))) fun r =>
 (cS r (fun a =>
 True) (fun b =>
 (((0 + (List.length x.1.1)) < 1099511627776) ∧
 (((0 + (List.length x.1.2.1)) < 1099511627776) ∧
 (((0 + (List.length x.1.2.2.1)) < 1099511627776) ∧
 (((0 + (List.length x.1.2.2.2)) < 1099511627776) ∧
 (letP (three x.2) fun y_2 =>
 ((((List.length ([] ++ x.1.2.2.2)) + 1) < 1099511627776) ∧
 ((eparts_pre (([] ++ x.1.1),(([] ++ x.1.2.1),(([] ++ x.1.2.2.1),(([] ++ x.1.2.2.2) ++ [y_2]))))) ∧
 letP (eparts (([] ++ x.1.1),(([] ++ x.1.2.1),(([] ++ x.1.2.2.1),(([] ++ x.1.2.2.2) ++ [y_2]))))) fun y_3 =>
 ((((y_3.2 != (0:Int)) = true) →
 ((edged_pre false) ∧
 letP (edged false) fun y_4 =>
 ((y_4 = true) →
 (meshis_pre (([] ++ x.1.1),(([] ++ x.1.2.1),(([] ++ x.1.2.2.1),(([] ++ x.1.2.2.2) ++ [y_2])))))))) ∧
 (¬ ((y_3.2 != (0:Int)) = true) →
 (Term (edgeParts_l2_step x) (edgeParts_l2_pre x) (b,(y_3.1,(0:Int))) ∧
 letP (run (edgeParts_l2_step x) (b,(y_3.1,(0:Int)))) fun r_1 =>
 (cS r_1 (fun a =>
 True) (fun b_1 =>
 (edged_pre false))))))))))))))))))))))
def edgeParts_t (x : (((List I3) × ((List I2) × ((List I3) × (List I9)))) × I3)) : Tr Bool true :=
 (.fn0 few14_S x.1 trivial fun y =>
 (.b01 (!y)
 (.ret true)
 (.i01 ((nL x.1.2.2.2) > (15:Int))
 (.ret true)
 (.fn eparts_S x.1 fun y_1 =>
 (.b11 (y_1.2 != z0)
 (.fn edged_S false fun y_2 =>
 (.b00 y_2
 (.ret ((nL y_1.1) == z0))
 (.ret false)))
 (LoopD.lp (edgeParts_l0 x) (edgeParts_l0_t x) (y_1.1,z0) fun r =>
 (.s01 r (fun a =>
 (.ret false)) (fun b =>
 (.od ((0 + (List.length x.1.1)) < 1099511627776)
 (.od ((0 + (List.length x.1.2.1)) < 1099511627776)
 (.od ((0 + (List.length x.1.2.2.1)) < 1099511627776)
 (.od ((0 + (List.length x.1.2.2.2)) < 1099511627776)
 (.fn0 three_S x.2 trivial fun y_2 =>
 (.od (((List.length ([] ++ x.1.2.2.2)) + 1) < 1099511627776)
 (.fn eparts_S (([] ++ x.1.1),(([] ++ x.1.2.1),(([] ++ x.1.2.2.1),(([] ++ x.1.2.2.2) ++ [y_2])))) fun y_3 =>
 (.b11 (y_3.2 != z0)
 (.fn edged_S false fun y_4 =>
 (.b10 y_4
 (.fn meshis_S (([] ++ x.1.1),(([] ++ x.1.2.1),(([] ++ x.1.2.2.1),(([] ++ x.1.2.2.2) ++ [y_2])))) fun y_5 =>
 (.ret (!y_5)))
 (.ret false)))
 (LoopD.lp (edgeParts_l2 x) (edgeParts_l2_t x) (b,(y_3.1,z0)) fun r_1 =>
 (.s01 r_1 (fun a =>
 (.ret false)) (fun b_1 =>
 (.fn edged_S false fun y_4 =>
 (.b00 y_4
 (.ret ((nL b_1.2) == (w1 (nL b_1.1))))
 (.ret false))))))))))))))))))))))
abbrev edgeParts_S : FnS := ⟨(.pair (.agg (Ty.prod (Ty.sl yy3) (Ty.prod (Ty.sl yy2) (Ty.prod (Ty.sl yy3) (Ty.sl yy9))))) (.pair (.one yi) (.pair (.one yi) (.one yi)))),(.one Ty.bool),edgeParts_pre,edgeParts⟩
theorem edgeParts_ok : SpecOk Try.prog 6 (fnSpec edgeParts_S) := SpecOk.tr edgeParts_S edgeParts_t (fn := Try.f6) tt_ok sp_in14_ok mixed (by kernel_rfl) (ItsOk.nil _ _) (fun x => (LpsOk.tr tt_ok (SpecsOk.ctxI sp_in14_ok (ItsOk.nil _ _)) mixed 0 (edgeParts_l0 x) (edgeParts_l0_t x) (LpsOk.tr tt_ok (SpecsOk.ctxI sp_in14_ok (ItsOk.nil _ _)) mixed 2 (edgeParts_l2 x) (edgeParts_l2_t x) (LpsOk.tr tt_ok (SpecsOk.ctxI sp_in14_ok (ItsOk.nil _ _)) mixed 4 (edgeParts_l4 x) (edgeParts_l4_t x) LpsOk.nil (by kernel_rfl) fun g s Q => (by kernel_rfl)) (by kernel_rfl) fun g s Q => (by kernel_rfl)) (by kernel_rfl) fun g s Q => (by kernel_rfl))) (fun x => (by kernel_rfl)) fun x Q => (by kernel_rfl)
end Go.Proofs.Ytleemdeodmdnkaa
