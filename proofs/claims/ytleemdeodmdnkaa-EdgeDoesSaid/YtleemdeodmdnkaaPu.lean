/- Models of functions of layer 14: parts. -/
import Derived.Test.YtleemdeodmdnkaaEb
import Derived.Test.YtleemdeodmdnkaaQc
noncomputable section
set_option linter.unusedSectionVars false
set_option linter.unusedVariables false
set_option linter.unusedSimpArgs false
namespace Go.Proofs.Ytleemdeodmdnkaa
open Go Go.Ev Go.Proofs
def eparts_l4 (x : ((List I3) × ((List I2) × ((List I3) × (List I9))))) : LoopD := ⟨[],⟨pvs 70 0 [(1,.v (.one (.ptr 0 0))),(4,.v (.one (.mp 5))),(5,.v (.one (.full 7))),(6,.v (.one (.i .i64))),(7,.v (.one (.full 8))),(22,.v (.one (.i .i64))),(23,.v (.one (.i .i64))),(48,.v (.one (.full 9))),(49,.v (.one (.i .i64))),(50,.v (.one (.i .i64)))],[.cells [.full 1,.full 2,.full 3,.full 4] 26,.row yy3 0,.row yy2 0,.row yy3 0,.row yy9 0,.grp Bool.true yy2 yi 6,.set 5,.row yi 2,.row yi 3,.row yi 2],0,none,[],[5,6,7,8],[9,10,0,11,1,2,12,3,4],[(.l (.prod yy2 (.sl yi))),(.l yi),.i,(.l yi),.i,.i,(.l yi),.i,.i],[.l yy3 x.1,.l yy2 x.2.1,.l yy3 x.2.2.1,.l yy9 x.2.2.2]⟩,[⟨(.exit 4),.normal,⟨pvs 70 0 [(1,.v (.one (.ptr 0 0))),(4,.v (.one (.mp 5))),(5,.v (.one (.full 7))),(6,.v (.one (.i .i64))),(7,.v (.one (.full 8))),(22,.v (.one (.i .i64))),(23,.v (.one (.i .i64)))],[.cells [.full 1,.full 2,.full 3,.full 4] 26,.row yy3 0,.row yy2 0,.row yy3 0,.row yy9 0,.grp Bool.true yy2 yi 6,.set 5,.row yi 2,.row yi 3],0,none,[],[3,4,5,6],[7,8,0,9,1,2],[(.l (.prod yy2 (.sl yi))),(.l yi),.i,(.l yi),.i,.i],[.l yy3 x.1,.l yy2 x.2.1,.l yy3 x.2.2.1,.l yy9 x.2.2.2]⟩⟩]⟩
def eparts_l4_step (x : ((List I3) × ((List I2) × ((List I3) × (List I9))))) (s : ((List (I2 × (List Int))) × ((List Int) × (Int × ((List Int) × (Int × (Int × ((List Int) × I2)))))))) : ((List (I2 × (List Int))) × ((List Int) × (Int × ((List Int) × (Int × (Int × ((List Int) × I2))))))) ⊕ ((List (I2 × (List Int))) × ((List Int) × (Int × ((List Int) × I2)))) :=
 (if (s.2.2.2.2.2.2.2.2 < s.2.2.2.2.2.2.2.1) then
 (if ((List.getD s.2.1 (Int.toNat (List.getD s.2.2.2.2.2.2.1 (Int.toNat s.2.2.2.2.2.2.2.2) (0:Int))) (0:Int)) < (0:Int)) then
 (letV (List.set s.2.1 (Int.toNat (List.getD s.2.2.2.2.2.2.1 (Int.toNat s.2.2.2.2.2.2.2.2) (0:Int))) s.2.2.1) fun y =>
 (Sum.inl (s.1,(y,(s.2.2.1,((s.2.2.2.1 ++ [(List.getD s.2.2.2.2.2.2.1 (Int.toNat s.2.2.2.2.2.2.2.2) (0:Int))]),(s.2.2.2.2.1,(s.2.2.2.2.2.1,(s.2.2.2.2.2.2.1,(s.2.2.2.2.2.2.2.1,(w64 (s.2.2.2.2.2.2.2.2 + (1:Int))))))))))))) else
 (Sum.inl (s.1,(s.2.1,(s.2.2.1,(s.2.2.2.1,(s.2.2.2.2.1,(s.2.2.2.2.2.1,(s.2.2.2.2.2.2.1,(s.2.2.2.2.2.2.2.1,(w64 (s.2.2.2.2.2.2.2.2 + (1:Int))))))))))))) else
 (Sum.inr ((s.1,(s.2.1,(s.2.2.1,(s.2.2.2.1,(s.2.2.2.2.1,s.2.2.2.2.2.1))))))))
def eparts_l4_pre (x : ((List I3) × ((List I2) × ((List I3) × (List I9))))) (s : ((List (I2 × (List Int))) × ((List Int) × (Int × ((List Int) × (Int × (Int × ((List Int) × I2)))))))) : Prop :=
 ((s.2.2.2.2.2.2.2.2 < s.2.2.2.2.2.2.2.1) →
 ((((0:Int) ≤ s.2.2.2.2.2.2.2.2) ∧ (s.2.2.2.2.2.2.2.2 < (s.2.2.2.2.2.2.1.length:Int))) ∧
 (((Int.toNat s.2.2.2.2.2.2.2.2) < (List.length s.2.2.2.2.2.2.1)) ∧
 (((Int.toNat s.2.2.2.2.2.2.2.2) < (List.length s.2.2.2.2.2.2.1)) ∧
 ((((0:Int) ≤ (List.getD s.2.2.2.2.2.2.1 (Int.toNat s.2.2.2.2.2.2.2.2) (0:Int))) ∧ ((List.getD s.2.2.2.2.2.2.1 (Int.toNat s.2.2.2.2.2.2.2.2) (0:Int)) < (s.2.1.length:Int))) ∧
 (((Int.toNat (List.getD s.2.2.2.2.2.2.1 (Int.toNat s.2.2.2.2.2.2.2.2) (0:Int))) < (List.length s.2.1)) ∧
 (((Int.toNat (List.getD s.2.2.2.2.2.2.1 (Int.toNat s.2.2.2.2.2.2.2.2) (0:Int))) < (List.length s.2.1)) ∧
 (((List.getD s.2.1 (Int.toNat (List.getD s.2.2.2.2.2.2.1 (Int.toNat s.2.2.2.2.2.2.2.2) (0:Int))) (0:Int)) < (0:Int)) →
 ((((0:Int) ≤ (List.getD s.2.2.2.2.2.2.1 (Int.toNat s.2.2.2.2.2.2.2.2) (0:Int))) ∧ ((List.getD s.2.2.2.2.2.2.1 (Int.toNat s.2.2.2.2.2.2.2.2) (0:Int)) < (s.2.1.length:Int))) ∧
 (((Int.toNat (List.getD s.2.2.2.2.2.2.1 (Int.toNat s.2.2.2.2.2.2.2.2) (0:Int))) < (List.length s.2.1)) ∧
 (((Int.toNat (List.getD s.2.2.2.2.2.2.1 (Int.toNat s.2.2.2.2.2.2.2.2) (0:Int))) < (List.length s.2.1)) ∧
 (letP (List.set s.2.1 (Int.toNat (List.getD s.2.2.2.2.2.2.1 (Int.toNat s.2.2.2.2.2.2.2.2) (0:Int))) s.2.2.1) fun y =>
 (((List.length s.2.2.2.1) + 1) < 1099511627776)))))))))))))
def eparts_l4_t (x : ((List I3) × ((List I2) × ((List I3) × (List I9))))) (s : ((List (I2 × (List Int))) × ((List Int) × (Int × ((List Int) × (Int × (Int × ((List Int) × I2)))))))) : Tr (((List (I2 × (List Int))) × ((List Int) × (Int × ((List Int) × (Int × (Int × ((List Int) × I2))))))) ⊕ ((List (I2 × (List Int))) × ((List Int) × (Int × ((List Int) × I2))))) true :=
 (.i10 (s.2.2.2.2.2.2.2.2 < s.2.2.2.2.2.2.2.1)
 (.oI2 s.2.2.2.2.2.2.2.2 s.2.2.2.2.2.2.1
 (.oI2 (gI s.2.2.2.2.2.2.1 s.2.2.2.2.2.2.2.2) s.2.1
 (.i10 ((gI s.2.1 (gI s.2.2.2.2.2.2.1 s.2.2.2.2.2.2.2.2)) < z0)
 (.oI2 (gI s.2.2.2.2.2.2.1 s.2.2.2.2.2.2.2.2) s.2.1
 (.lt (List.set s.2.1 (tN (gI s.2.2.2.2.2.2.1 s.2.2.2.2.2.2.2.2)) s.2.2.1) fun y =>
 (.od (((List.length s.2.2.2.1) + 1) < 1099511627776)
 (.ret (.inl (s.1,(y,(s.2.2.1,((s.2.2.2.1 ++ [(gI s.2.2.2.2.2.2.1 s.2.2.2.2.2.2.2.2)]),(s.2.2.2.2.1,(s.2.2.2.2.2.1,(s.2.2.2.2.2.2.1,(s.2.2.2.2.2.2.2.1,(w1 s.2.2.2.2.2.2.2.2))))))))))))))
 (.ret (.inl (s.1,(s.2.1,(s.2.2.1,(s.2.2.2.1,(s.2.2.2.2.1,(s.2.2.2.2.2.1,(s.2.2.2.2.2.2.1,(s.2.2.2.2.2.2.2.1,(w1 s.2.2.2.2.2.2.2.2))))))))))))))
 (.ret (.inr ((s.1,(s.2.1,(s.2.2.1,(s.2.2.2.1,(s.2.2.2.2.1,s.2.2.2.2.2.1)))))))))
def eparts_l2 (x : ((List I3) × ((List I2) × ((List I3) × (List I9))))) : LoopD := ⟨[],⟨pvs 70 0 [(1,.v (.one (.ptr 0 0))),(4,.v (.one (.mp 5))),(5,.v (.one (.full 7))),(6,.v (.one (.i .i64))),(7,.v (.one (.full 8))),(22,.v (.one (.i .i64))),(23,.v (.one (.i .i64)))],[.cells [.full 1,.full 2,.full 3,.full 4] 26,.row yy3 0,.row yy2 0,.row yy3 0,.row yy9 0,.grp Bool.true yy2 yi 6,.set 5,.row yi 2,.row yi 3],0,none,[],[3,4,5,6],[7,8,0,9,1,2],[(.l (.prod yy2 (.sl yi))),(.l yi),.i,(.l yi),.i,.i],[.l yy3 x.1,.l yy2 x.2.1,.l yy3 x.2.2.1,.l yy9 x.2.2.2]⟩,[⟨(.exit 2),.normal,⟨pvs 70 0 [(1,.v (.one (.ptr 0 0))),(4,.v (.one (.mp 5))),(5,.v (.one (.full 7))),(22,.v (.one (.i .i64))),(23,.v (.one (.i .i64)))],[.cells [.full 1,.full 2,.full 3,.full 4] 26,.row yy3 0,.row yy2 0,.row yy3 0,.row yy9 0,.grp Bool.true yy2 yi 6,.set 5,.row yi 2],0,none,[],[2,3,4,5],[6,7,0,1],[(.l (.prod yy2 (.sl yi))),(.l yi),.i,.i],[.l yy3 x.1,.l yy2 x.2.1,.l yy3 x.2.2.1,.l yy9 x.2.2.2]⟩⟩]⟩
def eparts_l2_step (x : ((List I3) × ((List I2) × ((List I3) × (List I9))))) (s : ((List (I2 × (List Int))) × ((List Int) × (Int × ((List Int) × I2))))) : ((List (I2 × (List Int))) × ((List Int) × (Int × ((List Int) × I2)))) ⊕ ((List (I2 × (List Int))) × ((List Int) × I2)) :=
 (if ((s.2.2.2.1.length:Int) > (0:Int)) then
 (letV (enear (s.1,(x,(List.getD s.2.2.2.1 0 (0:Int))))) fun y =>
 (letV (run (eparts_l4_step x) (y.2,(s.2.1,(s.2.2.1,((List.drop 1 s.2.2.2.1),(s.2.2.2.2.1,(s.2.2.2.2.2,(y.1,((y.1.length:Int),(0:Int)))))))))) fun r =>
 (Sum.inl (r.1,(r.2.1,(r.2.2.1,(r.2.2.2.1,(r.2.2.2.2.1,r.2.2.2.2.2)))))))) else
 (Sum.inr ((s.1,(s.2.1,(s.2.2.2.2.1,s.2.2.2.2.2))))))
def eparts_l2_pre (x : ((List I3) × ((List I2) × ((List I3) × (List I9))))) (s : ((List (I2 × (List Int))) × ((List Int) × (Int × ((List Int) × I2))))) : Prop :=
 (((s.2.2.2.1.length:Int) > (0:Int)) →
 (((0:Int) < (s.2.2.2.1.length:Int)) ∧
 ((0 < (List.length s.2.2.2.1)) ∧
 ((0 < (List.length s.2.2.2.1)) ∧
 (((1:Int) ≤ (s.2.2.2.1.length:Int)) ∧
 ((enear_pre (s.1,(x,(List.getD s.2.2.2.1 0 (0:Int))))) ∧
 letP (enear (s.1,(x,(List.getD s.2.2.2.1 0 (0:Int))))) fun y =>
 (Term (eparts_l4_step x) (eparts_l4_pre x) (y.2,(s.2.1,(s.2.2.1,((List.drop 1 s.2.2.2.1),(s.2.2.2.2.1,(s.2.2.2.2.2,(y.1,((y.1.length:Int),(0:Int))))))))))))))))
def eparts_l2_t (x : ((List I3) × ((List I2) × ((List I3) × (List I9))))) (s : ((List (I2 × (List Int))) × ((List Int) × (Int × ((List Int) × I2))))) : Tr (((List (I2 × (List Int))) × ((List Int) × (Int × ((List Int) × I2)))) ⊕ ((List (I2 × (List Int))) × ((List Int) × I2))) true :=
 (.i10 ((nL s.2.2.2.1) > z0)
 (.og (true && (decide (z0 < (nL s.2.2.2.1)))) (z0 < (nL s.2.2.2.1)) (fun h => (and_t rfl (decide_eq_true h)))
 (.od (0 < (List.length s.2.2.2.1))
 (.od (0 < (List.length s.2.2.2.1))
 (.og (true && (decide (z1 ≤ (nL s.2.2.2.1)))) (z1 ≤ (nL s.2.2.2.1)) (fun h => (and_t rfl (decide_eq_true h)))
 (.fnL enear_S (s.1,(x,(List.getD s.2.2.2.1 0 z0))) fun y =>
 (LoopD.lp (eparts_l4 x) (eparts_l4_t x) (y.2,(s.2.1,(s.2.2.1,((List.drop 1 s.2.2.2.1),(s.2.2.2.2.1,(s.2.2.2.2.2,(y.1,((nL y.1),z0)))))))) fun r =>
 (.ret (.inl (r.1,(r.2.1,(r.2.2.1,(r.2.2.2.1,(r.2.2.2.2.1,r.2.2.2.2.2)))))))))))))
 (.ret (.inr ((s.1,(s.2.1,(s.2.2.2.2.1,s.2.2.2.2.2)))))))
def eparts_l0 (x : ((List I3) × ((List I2) × ((List I3) × (List I9))))) : LoopD := ⟨[],⟨pvs 70 0 [(1,.v (.one (.ptr 0 0))),(4,.v (.one (.mp 5))),(5,.v (.one (.full 7))),(22,.v (.one (.i .i64))),(23,.v (.one (.i .i64)))],[.cells [.full 1,.full 2,.full 3,.full 4] 26,.row yy3 0,.row yy2 0,.row yy3 0,.row yy9 0,.grp Bool.true yy2 yi 6,.set 5,.row yi 2],0,none,[],[2,3,4,5],[6,7,0,1],[(.l (.prod yy2 (.sl yi))),(.l yi),.i,.i],[.l yy3 x.1,.l yy2 x.2.1,.l yy3 x.2.2.1,.l yy9 x.2.2.2]⟩,[⟨(.exit 0),.normal,⟨pvs 70 0 [(5,.v (.one (.full 0)))],[.row yi 2],0,none,[],[],[0],[(.l yi)],[]⟩⟩]⟩
def eparts_l0_step (x : ((List I3) × ((List I2) × ((List I3) × (List I9))))) (s : ((List (I2 × (List Int))) × ((List Int) × I2))) : ((List (I2 × (List Int))) × ((List Int) × I2)) ⊕ (List Int) :=
 (if (s.2.2.2 < s.2.2.1) then
 (if ((List.getD s.2.1 (Int.toNat s.2.2.2) (0:Int)) ≥ (0:Int)) then
 (Sum.inl (s.1,(s.2.1,(s.2.2.1,(w64 (s.2.2.2 + (1:Int))))))) else
 (letV (List.set s.2.1 (Int.toNat s.2.2.2) s.2.2.2) fun y =>
 (letV (run (eparts_l2_step x) (s.1,(y,(s.2.2.2,([s.2.2.2],(s.2.2.1,s.2.2.2)))))) fun r =>
 (Sum.inl (r.1,(r.2.1,(r.2.2.1,(w64 (r.2.2.2 + (1:Int)))))))))) else
 (Sum.inr (s.2.1)))
def eparts_l0_pre (x : ((List I3) × ((List I2) × ((List I3) × (List I9))))) (s : ((List (I2 × (List Int))) × ((List Int) × I2))) : Prop :=
 ((s.2.2.2 < s.2.2.1) →
 ((((0:Int) ≤ s.2.2.2) ∧ (s.2.2.2 < (s.2.1.length:Int))) ∧
 (((Int.toNat s.2.2.2) < (List.length s.2.1)) ∧
 (((Int.toNat s.2.2.2) < (List.length s.2.1)) ∧
 (¬ ((List.getD s.2.1 (Int.toNat s.2.2.2) (0:Int)) ≥ (0:Int)) →
 ((((0:Int) ≤ s.2.2.2) ∧ (s.2.2.2 < (s.2.1.length:Int))) ∧
 (((Int.toNat s.2.2.2) < (List.length s.2.1)) ∧
 (((Int.toNat s.2.2.2) < (List.length s.2.1)) ∧
 (letP (List.set s.2.1 (Int.toNat s.2.2.2) s.2.2.2) fun y =>
 (Term (eparts_l2_step x) (eparts_l2_pre x) (s.1,(y,(s.2.2.2,([s.2.2.2],(s.2.2.1,s.2.2.2)))))))))))))))
def eparts_l0_t (x : ((List I3) × ((List I2) × ((List I3) × (List I9))))) (s : ((List (I2 × (List Int))) × ((List Int) × I2))) : Tr (((List (I2 × (List Int))) × ((List Int) × I2)) ⊕ (List Int)) true :=
 (.i10 (s.2.2.2 < s.2.2.1)
 (.oI2 s.2.2.2 s.2.1
 (.i01 ((gI s.2.1 s.2.2.2) ≥ z0)
 (.ret (.inl (s.1,(s.2.1,(s.2.2.1,(w1 s.2.2.2))))))
 (.oI2 s.2.2.2 s.2.1
 (.lt (List.set s.2.1 (tN s.2.2.2) s.2.2.2) fun y =>
 (LoopD.lp (eparts_l2 x) (eparts_l2_t x) (s.1,(y,(s.2.2.2,([s.2.2.2],(s.2.2.1,s.2.2.2))))) fun r =>
 (.ret (.inl (r.1,(r.2.1,(r.2.2.1,(w1 r.2.2.2)))))))))))
 (.ret (.inr (s.2.1))))
def eparts (x : ((List I3) × ((List I2) × ((List I3) × (List I9))))) : ((List Int) × Int) :=
 (letV (meshis x) fun y =>
 (if ((!y) = true) then
 ([],(1:Int)) else
 (letV (etable x) fun y_1 =>
 (letV (repeatM ([(-1:Int)],(x.2.2.2.length:Int))) fun y_2 =>
 (letV (run (eparts_l0_step x) (y_1,(y_2,((y_2.length:Int),(0:Int))))) fun r =>
 (r,(0:Int)))))))
def eparts_pre (x : ((List I3) × ((List I2) × ((List I3) × (List I9))))) : Prop :=
 ((meshis_pre x) ∧
 letP (meshis x) fun y =>
 (¬ ((!y) = true) →
 ((etable_pre x) ∧
 letP (etable x) fun y_1 =>
 ((repeatM_pre ([(-1:Int)],(x.2.2.2.length:Int))) ∧
 letP (repeatM ([(-1:Int)],(x.2.2.2.length:Int))) fun y_2 =>
 (Term (eparts_l0_step x) (eparts_l0_pre x) (y_1,(y_2,((y_2.length:Int),(0:Int)))))))))
def eparts_t (x : ((List I3) × ((List I2) × ((List I3) × (List I9))))) : Tr ((List Int) × Int) true :=
 (.fn meshis_S x fun y =>
 (.b01 (!y)
 (.ret ([],z1))
 (.fnG etable_S x fun y_1 =>
 (.fn repeatM_S ([(-1:Int)],(nL x.2.2.2)) fun y_2 =>
 (LoopD.lp (eparts_l0 x) (eparts_l0_t x) (y_1,(y_2,((nL y_2),z0))) fun r =>
 (.ret (r,z0)))))))
abbrev eparts_S : FnS := ⟨(.agg (Ty.prod (Ty.sl yy3) (Ty.prod (Ty.sl yy2) (Ty.prod (Ty.sl yy3) (Ty.sl yy9))))),(.pair (.one (Ty.sl yi)) (.one yi)),eparts_pre,eparts⟩
theorem eparts_ok : SpecOk Try.prog 15 (fnSpec eparts_S) := SpecOk.tr eparts_S eparts_t (fn := Try.f15) tt_ok sp_efind_ok mixed (by kernel_rfl) (ItsOk.nil _ _) (fun x => (LpsOk.tr tt_ok (SpecsOk.ctxI sp_efind_ok (ItsOk.nil _ _)) mixed 0 (eparts_l0 x) (eparts_l0_t x) (LpsOk.tr tt_ok (SpecsOk.ctxI sp_efind_ok (ItsOk.nil _ _)) mixed 2 (eparts_l2 x) (eparts_l2_t x) (LpsOk.tr tt_ok (SpecsOk.ctxI sp_efind_ok (ItsOk.nil _ _)) mixed 4 (eparts_l4 x) (eparts_l4_t x) LpsOk.nil (by kernel_rfl) fun g s Q => (by kernel_rfl)) (by kernel_rfl) fun g s Q => (by kernel_rfl)) (by kernel_rfl) fun g s Q => (by kernel_rfl))) (fun x => (by kernel_rfl)) fun x Q => (by kernel_rfl)
def sp_eparts : List (Nat × Ev.Spec) := (15,fnSpec eparts_S) :: sp_efind
theorem sp_eparts_ok : SpecsOk Try.prog sp_eparts := SpecsOk.add (fn := Try.f15) (by kernel_rfl) eparts_ok sp_efind_ok
end Go.Proofs.Ytleemdeodmdnkaa

namespace Go.Proofs.Ytleemdeodmdnkaa
open Go Go.Ev Go.Proofs
theorem cnt {i n : Nat} (h : i < n) (hn : n < 4611686018427387904) : w64 ((i:Int) + 1) = ((i + 1:Nat):Int) := by rw [w64_id (by omega) (by omega)]; omega
def TR {S R : Type} [Inhabited R] (step : S → S ⊕ R) (pre : S → Prop) (s : S) (Post : R → Prop) : Prop := Term step pre s ∧ Post (run step s)
theorem TR.stop {S R : Type} [Inhabited R] {step : S → S ⊕ R} {pre : S → Prop} {s : S} {Post : R → Prop} {r : R} (hp : pre s) (h : step s = .inr r) (hq : Post r) : TR step pre s Post :=
 ⟨.mk s hp (fun s' e => by rw [h] at e; cases e),by rw [run_eq,h]; exact hq⟩
theorem TR.go {S R : Type} [Inhabited R] {step : S → S ⊕ R} {pre : S → Prop} {s s' : S} {Post : R → Prop} (hp : pre s) (h : step s = .inl s') (hn : TR step pre s' Post) : TR step pre s Post :=
 ⟨.mk s hp (fun t e => by rw [h] at e; cases e; exact hn.1),by rw [run_eq,h]; exact hn.2⟩
theorem TR.inv {S R : Type} [Inhabited R] {step : S → S ⊕ R} {pre : S → Prop} {Post : R → Prop} (J : S → Prop) (μ : S → Nat)
  (h : ∀ s,J s → pre s ∧ (∀ s',step s = .inl s' → J s' ∧ μ s' < μ s) ∧ ∀ r,step s = .inr r → Post r) {s : S} (hs : J s) : TR step pre s Post := loop_inv J μ Post h s hs
theorem for_loop {S R : Type} [Inhabited R] {step : S → S ⊕ R} {pre : S → Prop} (n:Nat) (J : Nat → S → Prop) (Post : R → Prop)
  (h1 : ∀ i s,i < n → J i s → pre s ∧ ((∃ s',step s = .inl s' ∧ J (i + 1) s') ∨ (∃ r,step s = .inr r ∧ Post r)))
  (h2 : ∀ s,J n s → pre s ∧ ∃ r,step s = .inr r ∧ Post r) {s : S} (h0 : J 0 s) : TR step pre s Post := by
 have key : ∀ k i,i + k = n → ∀ s,J i s → TR step pre s Post := by
  intro k
  induction k with
  | zero =>
   intro i e s hj
   have : i = n := by omega
   subst this
   obtain ⟨hp,r,e1,hq⟩ := h2 s hj
   exact TR.stop hp e1 hq
  | succ k ih =>
   intro i e s hj
   obtain ⟨hp,⟨s',e1,hj'⟩ | ⟨r,e1,hq⟩⟩ := h1 i s (by omega) hj
   ·exact TR.go hp e1 (ih (i + 1) (by omega) s' hj')
   ·exact TR.stop hp e1 hq
 exact key n 0 (by omega) s h0
theorem take_snoc {α : Type} {l : List α} {i : Nat} (h : i < l.length) (d : α) : l.take (i + 1) = l.take i ++ [l.getD i d] := by
 rw [List.take_add_one,List.getD_eq_getElem?_getD,List.getElem?_eq_getElem h]; rfl
theorem getD_in {α : Type} {l : List α} {i : Nat} (h : i < l.length) (d : α) : l.getD i d ∈ l := by
 rw [List.getD_eq_getElem?_getD,List.getElem?_eq_getElem h]; exact List.getElem_mem h
theorem mem_getD {α : Type} {l : List α} {x : α} (h : x ∈ l) (d : α) : ∃ i,i < l.length ∧ l.getD i d = x := by
 obtain ⟨i,hi,e⟩ := List.mem_iff_getElem.1 h
 exact ⟨i,hi,by rw [List.getD_eq_getElem?_getD,List.getElem?_eq_getElem hi,e]; rfl⟩
end Go.Proofs.Ytleemdeodmdnkaa
