/- Models of functions of layer 18: what is built. -/
import Derived.Test.YtbjfokijjefoeaaAb
import Derived.Test.YtbjfokijjefoeaaAa
namespace Go.Proofs.Ytbjfokijjefoeaa
open Go Go.Ev Go.Proofs
set_option linter.unusedVariables false
def sp_bld1 : List (Nat × Ev.Spec) := (14,fnSpec orderM_S) :: sp_ownM
theorem sp_bld1_ok : SpecsOk Try.prog sp_bld1 := SpecsOk.add (fn := Try.f14) (by kernel_rfl) orderM_ok sp_ownM_ok
def sp_bld2 : List (Nat × Ev.Spec) := (19,fnSpec pack_S) :: sp_bld1
theorem sp_bld2_ok : SpecsOk Try.prog sp_bld2 := SpecsOk.add (fn := Try.f19) (by kernel_rfl) pack_ok sp_bld1_ok
def sp_bld3 : List (Nat × Ev.Spec) := (24,fnSpec shis_S) :: sp_bld2
theorem sp_bld3_ok : SpecsOk Try.prog sp_bld3 := SpecsOk.add (fn := Try.f24) (by kernel_rfl) shis_ok sp_bld2_ok
noncomputable def buildM_l0 (x : (Int × (Int × (Int × (List ((List Int) × ((List I6) × I2))))))) : LoopD := ⟨[],⟨pvs 111 0 [(0,.v (.one (.i .i64))),(1,.v (.one (.i .i64))),(2,.v (.one (.i .i64))),(3,.v (.one (.full 0))),(8,.v (.one (.ptr 1 0))),(10,.v (.one (.full 2))),(11,.v (.one (.full 3))),(35,.v (.one (.full 2))),(36,.v (.one (.i .i64))),(37,.v (.one (.i .i64)))],[.row (Ty.prod (Ty.sl yi) (Ty.prod (Ty.sl yy6) yy2)) 0,.cells [.i .i64,.i .i64,.i .i64,.raw,.raw] 26,.row yi 2,.row yy2 2],0,none,[],[0,1,2,5,6,7,8,9,10],[11,12,3,4],[(.l yi),(.l yy2),.i,.i],[.i x.1,.i x.2.1,.i x.2.2.1,.l (Ty.prod (Ty.sl yi) (Ty.prod (Ty.sl yy6) yy2)) x.2.2.2,.i (0:Int),.i (0:Int),.i (0:Int),.v (.slice none 0 0),.v (.slice none 0 0)]⟩,[⟨.ret,.ret,⟨pvs 111 0 [(8,.v (.one (.ptr 0 0))),(9,.v (.one (.i .i64)))],[.cells [.i .i64,.i .i64,.i .i64,.raw,.raw] 26],0,none,[],[0,1,2,3,4,5],[],[],[.i (9:Int),.i (0:Int),.i (0:Int),.i (0:Int),.v (.slice none 0 0),.v (.slice none 0 0)]⟩⟩,⟨(.exit 0),.normal,⟨pvs 111 0 [(0,.v (.one (.i .i64))),(1,.v (.one (.i .i64))),(2,.v (.one (.i .i64))),(3,.v (.one (.full 0))),(8,.v (.one (.ptr 1 0))),(10,.v (.one (.full 2))),(11,.v (.one (.full 3)))],[.row (Ty.prod (Ty.sl yi) (Ty.prod (Ty.sl yy6) yy2)) 0,.cells [.i .i64,.i .i64,.i .i64,.raw,.raw] 26,.row yi 2,.row yy2 2],0,none,[],[0,1,2,3,4,5,6,7,8],[9,10],[(.l yi),(.l yy2)],[.i x.1,.i x.2.1,.i x.2.2.1,.l (Ty.prod (Ty.sl yi) (Ty.prod (Ty.sl yy6) yy2)) x.2.2.2,.i (0:Int),.i (0:Int),.i (0:Int),.v (.slice none 0 0),.v (.slice none 0 0)]⟩⟩]⟩
noncomputable def buildM_l0_step (x : (Int × (Int × (Int × (List ((List Int) × ((List I6) × I2))))))) (s : ((List Int) × ((List I2) × I2))) : ((List Int) × ((List I2) × I2)) ⊕ (Unit ⊕ ((List Int) × (List I2))) :=
 (if (s.2.2.2 < s.2.2.1) then
 (letV (sizeM ((List.getD x.2.2.2 (Int.toNat (List.getD s.1 (Int.toNat s.2.2.2) (0:Int))) ([],([],((0:Int),(0:Int))))),x.2.2.1)) fun y =>
 (if ((maxI y.1 y.2) > (256:Int)) then
 (Sum.inr (Sum.inl ())) else
 (Sum.inl (s.1,((s.2.1 ++ [y]),(s.2.2.1,(w64 (s.2.2.2 + (1:Int))))))))) else
 (Sum.inr (Sum.inr ((s.1,s.2.1)))))
noncomputable def buildM_l0_pre (x : (Int × (Int × (Int × (List ((List Int) × ((List I6) × I2))))))) (s : ((List Int) × ((List I2) × I2))) : Prop :=
 ((s.2.2.2 < s.2.2.1) →
 ((((0:Int) ≤ s.2.2.2) ∧ (s.2.2.2 < (((List.length s.1):Nat):Int))) ∧
 (((Int.toNat s.2.2.2) < (List.length s.1)) ∧
 (((Int.toNat s.2.2.2) < (List.length s.1)) ∧
 ((((0:Int) ≤ (List.getD s.1 (Int.toNat s.2.2.2) (0:Int))) ∧ ((List.getD s.1 (Int.toNat s.2.2.2) (0:Int)) < (((List.length x.2.2.2):Nat):Int))) ∧
 (((Int.toNat (List.getD s.1 (Int.toNat s.2.2.2) (0:Int))) < (List.length x.2.2.2)) ∧
 (((Int.toNat (List.getD s.1 (Int.toNat s.2.2.2) (0:Int))) < (List.length x.2.2.2)) ∧
 (letP (sizeM ((List.getD x.2.2.2 (Int.toNat (List.getD s.1 (Int.toNat s.2.2.2) (0:Int))) ([],([],((0:Int),(0:Int))))),x.2.2.1)) fun y =>
 (¬ ((maxI y.1 y.2) > (256:Int)) →
 (((List.length s.2.1) + 1) < 1099511627776))))))))))
noncomputable def buildM_l0_t (x : (Int × (Int × (Int × (List ((List Int) × ((List I6) × I2))))))) (s : ((List Int) × ((List I2) × I2))) : Tr (((List Int) × ((List I2) × I2)) ⊕ (Unit ⊕ ((List Int) × (List I2)))) true :=
 (.i10 (s.2.2.2 < s.2.2.1)
 (.oR s.2.2.2 (nL s.1)
 (.od ((tN s.2.2.2) < (List.length s.1))
 (.od ((tN s.2.2.2) < (List.length s.1))
 (.oR (gI s.1 s.2.2.2) (nL x.2.2.2)
 (.od ((tN (gI s.1 s.2.2.2)) < (List.length x.2.2.2))
 (.od ((tN (gI s.1 s.2.2.2)) < (List.length x.2.2.2))
 (.fn0 sizeM_S ((gT x.2.2.2 (gI s.1 s.2.2.2) ([],([],zz2))),x.2.2.1) trivial fun y =>
 (.i01 ((maxI y.1 y.2) > (256:Int))
 (.ret (.inr (Sum.inl ())))
 (.od (((List.length s.2.1) + 1) < 1099511627776)
 (.ret (.inl (s.1,((s.2.1 ++ [y]),(s.2.2.1,(w1 s.2.2.2)))))))))))))))
 (.ret (.inr (Sum.inr ((s.1,s.2.1))))))
noncomputable def buildM_l2 (x : (Int × (Int × (Int × (List ((List Int) × ((List I6) × I2))))))) : LoopD := ⟨[],⟨pvs 111 0 [(2,.v (.one (.i .i64))),(8,.v (.one (.ptr 0 0))),(10,.v (.one (.full 1))),(15,.v (.one (.full 2))),(17,.v (.one (.ptr 3 0))),(78,.v (.one (.full 6))),(79,.v (.one (.i .i64))),(80,.v (.one (.i .i64)))],[.cells [.i .i64,.i .i64,.i .i64,.raw,.raw] 26,.row yi 2,.row (Ty.prod yi yy3) 2,.cells [.i .i64,.i .i64,.i .i64,.full 4,.full 5] 26,.row (Ty.prod (Ty.sl yi) (Ty.prod (Ty.sl yy6) yy2)) 2,.row (Ty.prod yi yy3) 2,.row (Ty.prod (Ty.sl yi) (Ty.prod (Ty.sl yy6) yy2)) 0],0,none,[],[0,1,3,4,5,6,7,10,11,12,14,15],[8,9,13,2],[(.l yi),(.l (Ty.prod yi yy3)),(.l (Ty.prod (Ty.sl yi) (Ty.prod (Ty.sl yy6) yy2))),.i],[.i x.2.2.1,.i (((List.length x.2.2.2):Nat):Int),.i (0:Int),.i (0:Int),.i (0:Int),.v (.slice none 0 0),.v (.slice none 0 0),.i x.1,.i x.2.1,.i x.2.2.1,.l (Ty.prod yi yy3) (List.replicate (List.length x.2.2.2) ((0:Int),((0:Int),((0:Int),(0:Int))))),.l (Ty.prod (Ty.sl yi) (Ty.prod (Ty.sl yy6) yy2)) x.2.2.2]⟩,[⟨(.exit 2),.normal,⟨pvs 111 0 [(8,.v (.one (.ptr 0 0))),(10,.v (.one (.full 1))),(15,.v (.one (.full 2))),(17,.v (.one (.ptr 3 0)))],[.cells [.i .i64,.i .i64,.i .i64,.raw,.raw] 26,.row yi 2,.row (Ty.prod yi yy3) 2,.cells [.i .i64,.i .i64,.i .i64,.full 4,.full 5] 26,.row (Ty.prod (Ty.sl yi) (Ty.prod (Ty.sl yy6) yy2)) 2,.row (Ty.prod yi yy3) 2],0,none,[],[0,1,2,3,4,7,8,9,11],[5,6,10],[(.l yi),(.l (Ty.prod yi yy3)),(.l (Ty.prod (Ty.sl yi) (Ty.prod (Ty.sl yy6) yy2)))],[.i (0:Int),.i (0:Int),.i (0:Int),.v (.slice none 0 0),.v (.slice none 0 0),.i x.1,.i x.2.1,.i x.2.2.1,.l (Ty.prod yi yy3) (List.replicate (List.length x.2.2.2) ((0:Int),((0:Int),((0:Int),(0:Int)))))]⟩⟩]⟩
noncomputable def buildM_l2_step (x : (Int × (Int × (Int × (List ((List Int) × ((List I6) × I2))))))) (s : ((List Int) × ((List (Int × I3)) × ((List ((List Int) × ((List I6) × I2))) × Int)))) : ((List Int) × ((List (Int × I3)) × ((List ((List Int) × ((List I6) × I2))) × Int))) ⊕ ((List Int) × ((List (Int × I3)) × (List ((List Int) × ((List I6) × I2))))) :=
 (if (s.2.2.2 < (((List.length x.2.2.2):Nat):Int)) then
 (letV (ownM ((List.getD x.2.2.2 (Int.toNat s.2.2.2) ([],([],((0:Int),(0:Int))))),x.2.2.1)) fun y =>
 (Sum.inl (s.1,(s.2.1,((s.2.2.1 ++ [y]),(w64 (s.2.2.2 + (1:Int)))))))) else
 (Sum.inr ((s.1,(s.2.1,s.2.2.1)))))
noncomputable def buildM_l2_pre (x : (Int × (Int × (Int × (List ((List Int) × ((List I6) × I2))))))) (s : ((List Int) × ((List (Int × I3)) × ((List ((List Int) × ((List I6) × I2))) × Int)))) : Prop :=
 ((s.2.2.2 < (((List.length x.2.2.2):Nat):Int)) →
 ((((0:Int) ≤ s.2.2.2) ∧ (s.2.2.2 < (((List.length x.2.2.2):Nat):Int))) ∧
 (((Int.toNat s.2.2.2) < (List.length x.2.2.2)) ∧
 (((Int.toNat s.2.2.2) < (List.length x.2.2.2)) ∧
 ((ownM_pre ((List.getD x.2.2.2 (Int.toNat s.2.2.2) ([],([],((0:Int),(0:Int))))),x.2.2.1)) ∧
 letP (ownM ((List.getD x.2.2.2 (Int.toNat s.2.2.2) ([],([],((0:Int),(0:Int))))),x.2.2.1)) fun y =>
 (((List.length s.2.2.1) + 1) < 1099511627776))))))
noncomputable def buildM_l2_t (x : (Int × (Int × (Int × (List ((List Int) × ((List I6) × I2))))))) (s : ((List Int) × ((List (Int × I3)) × ((List ((List Int) × ((List I6) × I2))) × Int)))) : Tr (((List Int) × ((List (Int × I3)) × ((List ((List Int) × ((List I6) × I2))) × Int))) ⊕ ((List Int) × ((List (Int × I3)) × (List ((List Int) × ((List I6) × I2)))))) true :=
 (.i10 (s.2.2.2 < (nL x.2.2.2))
 (.oR s.2.2.2 (nL x.2.2.2)
 (.od ((tN s.2.2.2) < (List.length x.2.2.2))
 (.od ((tN s.2.2.2) < (List.length x.2.2.2))
 (.fn ownM_S ((gT x.2.2.2 s.2.2.2 ([],([],zz2))),x.2.2.1) fun y =>
 (.od (((List.length s.2.2.1) + 1) < 1099511627776)
 (.ret (.inl (s.1,(s.2.1,((s.2.2.1 ++ [y]),(w1 s.2.2.2)))))))))))
 (.ret (.inr ((s.1,(s.2.1,s.2.2.1))))))
noncomputable def buildM_l4 (x : (Int × (Int × (Int × (List ((List Int) × ((List I6) × I2))))))) : LoopD := ⟨[],⟨pvs 111 0 [(8,.v (.one (.ptr 0 0))),(15,.v (.one (.full 1))),(17,.v (.one (.ptr 2 0))),(94,.v (.one (.full 5))),(95,.v (.one (.i .i64))),(96,.v (.one (.i .i64)))],[.cells [.i .i64,.i .i64,.i .i64,.raw,.raw] 26,.row (Ty.prod yi yy3) 2,.cells [.i .i64,.i .i64,.i .i64,.full 3,.full 4] 26,.row (Ty.prod (Ty.sl yi) (Ty.prod (Ty.sl yy6) yy2)) 2,.row (Ty.prod yi yy3) 2,.row yi 2],0,none,[],[2,3,4,5,6,8,9,10],[7,11,12,13,0,1],[(.l (Ty.prod yi yy3)),(.l (Ty.prod (Ty.sl yi) (Ty.prod (Ty.sl yy6) yy2))),(.l (Ty.prod yi yy3)),(.l yi),.i,.i],[.i (0:Int),.i (0:Int),.i (0:Int),.v (.slice none 0 0),.v (.slice none 0 0),.i x.1,.i x.2.1,.i x.2.2.1]⟩,[⟨(.exit 4),.normal,⟨pvs 111 0 [(8,.v (.one (.ptr 0 0))),(17,.v (.one (.ptr 1 0)))],[.cells [.i .i64,.i .i64,.i .i64,.raw,.raw] 26,.cells [.i .i64,.i .i64,.i .i64,.full 2,.full 3] 26,.row (Ty.prod (Ty.sl yi) (Ty.prod (Ty.sl yy6) yy2)) 2,.row (Ty.prod yi yy3) 2],0,none,[],[0,1,2,3,4,5,6,7],[8,9],[(.l (Ty.prod (Ty.sl yi) (Ty.prod (Ty.sl yy6) yy2))),(.l (Ty.prod yi yy3))],[.i (0:Int),.i (0:Int),.i (0:Int),.v (.slice none 0 0),.v (.slice none 0 0),.i x.1,.i x.2.1,.i x.2.2.1]⟩⟩]⟩
noncomputable def buildM_l4_step (x : (Int × (Int × (Int × (List ((List Int) × ((List I6) × I2))))))) (s : ((List (Int × I3)) × ((List ((List Int) × ((List I6) × I2))) × ((List (Int × I3)) × ((List Int) × I2))))) : ((List (Int × I3)) × ((List ((List Int) × ((List I6) × I2))) × ((List (Int × I3)) × ((List Int) × I2)))) ⊕ ((List ((List Int) × ((List I6) × I2))) × (List (Int × I3))) :=
 (if (s.2.2.2.2.2 < s.2.2.2.2.1) then
 (letV (List.set s.2.2.1 (Int.toNat (List.getD s.2.2.2.1 (Int.toNat s.2.2.2.2.2) (0:Int))) (List.getD s.1 (Int.toNat s.2.2.2.2.2) ((0:Int),((0:Int),((0:Int),(0:Int)))))) fun y =>
 (Sum.inl (s.1,(s.2.1,(y,(s.2.2.2.1,(s.2.2.2.2.1,(w64 (s.2.2.2.2.2 + (1:Int)))))))))) else
 (Sum.inr ((s.2.1,s.2.2.1))))
noncomputable def buildM_l4_pre (x : (Int × (Int × (Int × (List ((List Int) × ((List I6) × I2))))))) (s : ((List (Int × I3)) × ((List ((List Int) × ((List I6) × I2))) × ((List (Int × I3)) × ((List Int) × I2))))) : Prop :=
 ((s.2.2.2.2.2 < s.2.2.2.2.1) →
 ((((0:Int) ≤ s.2.2.2.2.2) ∧ (s.2.2.2.2.2 < (((List.length s.2.2.2.1):Nat):Int))) ∧
 (((Int.toNat s.2.2.2.2.2) < (List.length s.2.2.2.1)) ∧
 (((Int.toNat s.2.2.2.2.2) < (List.length s.2.2.2.1)) ∧
 ((((0:Int) ≤ s.2.2.2.2.2) ∧ (s.2.2.2.2.2 < (((List.length s.1):Nat):Int))) ∧
 (((Int.toNat s.2.2.2.2.2) < (List.length s.1)) ∧
 (((Int.toNat s.2.2.2.2.2) < (List.length s.1)) ∧
 ((((0:Int) ≤ (List.getD s.2.2.2.1 (Int.toNat s.2.2.2.2.2) (0:Int))) ∧ ((List.getD s.2.2.2.1 (Int.toNat s.2.2.2.2.2) (0:Int)) < (((List.length s.2.2.1):Nat):Int))) ∧
 (((Int.toNat (List.getD s.2.2.2.1 (Int.toNat s.2.2.2.2.2) (0:Int))) < (List.length s.2.2.1)) ∧
 ((Int.toNat (List.getD s.2.2.2.1 (Int.toNat s.2.2.2.2.2) (0:Int))) < (List.length s.2.2.1)))))))))))
noncomputable def buildM_l4_t (x : (Int × (Int × (Int × (List ((List Int) × ((List I6) × I2))))))) (s : ((List (Int × I3)) × ((List ((List Int) × ((List I6) × I2))) × ((List (Int × I3)) × ((List Int) × I2))))) : Tr (((List (Int × I3)) × ((List ((List Int) × ((List I6) × I2))) × ((List (Int × I3)) × ((List Int) × I2)))) ⊕ ((List ((List Int) × ((List I6) × I2))) × (List (Int × I3)))) true :=
 (.i10 (s.2.2.2.2.2 < s.2.2.2.2.1)
 (.oR s.2.2.2.2.2 (nL s.2.2.2.1)
 (.od ((tN s.2.2.2.2.2) < (List.length s.2.2.2.1))
 (.od ((tN s.2.2.2.2.2) < (List.length s.2.2.2.1))
 (.oR s.2.2.2.2.2 (nL s.1)
 (.od ((tN s.2.2.2.2.2) < (List.length s.1))
 (.od ((tN s.2.2.2.2.2) < (List.length s.1))
 (.oR (gI s.2.2.2.1 s.2.2.2.2.2) (nL s.2.2.1)
 (.od ((tN (gI s.2.2.2.1 s.2.2.2.2.2)) < (List.length s.2.2.1))
 (.od ((tN (gI s.2.2.2.1 s.2.2.2.2.2)) < (List.length s.2.2.1))
 (.lt (List.set s.2.2.1 (tN (gI s.2.2.2.1 s.2.2.2.2.2)) (gT s.1 s.2.2.2.2.2 (z0,zz3))) fun y =>
 (.ret (.inl (s.1,(s.2.1,(y,(s.2.2.2.1,(s.2.2.2.2.1,(w1 s.2.2.2.2.2))))))))))))))))))
 (.ret (.inr ((s.2.1,s.2.2.1)))))
noncomputable def buildM (x : (Int × (Int × (Int × (List ((List Int) × ((List I6) × I2))))))) : ((Int × (Int × (Int × ((List ((List Int) × ((List I6) × I2))) × (List (Int × I3)))))) × Int) :=
 (letV (numbersM (x.1,(x.2.1,x.2.2.1))) fun y =>
 (if ((!y) = true) then
 (((0:Int),((0:Int),((0:Int),([],[])))),(1:Int)) else
 (letV (rightR x.2.2.2) fun y_1 =>
 (if ((!y_1) = true) then
 (((0:Int),((0:Int),((0:Int),([],[])))),(1:Int)) else
 (letV (orderM x.2.2.2) fun y_2 =>
 (letV (run (buildM_l0_step x) (y_2,([],((((List.length y_2):Nat):Int),(0:Int))))) fun r =>
 (Sum.elim (fun a =>
 (((0:Int),((0:Int),((0:Int),([],[])))),(9:Int))) (fun b =>
 (letV (pack (x.1,(x.2.1,b.2))) fun y_3 =>
 (if ((y_3.2 != (0:Int)) = true) then
 (((0:Int),((0:Int),((0:Int),([],[])))),y_3.2) else
 (letV (run (buildM_l2_step x) (b.1,(y_3.1,([],(0:Int))))) fun r_1 =>
 (letV (run (buildM_l4_step x) (r_1.2.1,(r_1.2.2,((List.replicate (List.length x.2.2.2) ((0:Int),((0:Int),((0:Int),(0:Int))))),(r_1.1,((((List.length r_1.1):Nat):Int),(0:Int))))))) fun r_2 =>
 ((x.1,(x.2.1,(x.2.2.1,r_2))),(0:Int))))))) r)))))))
noncomputable def buildM_pre (x : (Int × (Int × (Int × (List ((List Int) × ((List I6) × I2))))))) : Prop :=
 (letP (numbersM (x.1,(x.2.1,x.2.2.1))) fun y =>
 (¬ ((!y) = true) →
 ((rightR_pre x.2.2.2) ∧
 letP (rightR x.2.2.2) fun y_1 =>
 (¬ ((!y_1) = true) →
 ((orderM_pre x.2.2.2) ∧
 letP (orderM x.2.2.2) fun y_2 =>
 (Term (buildM_l0_step x) (buildM_l0_pre x) (y_2,([],((((List.length y_2):Nat):Int),(0:Int)))) ∧
 letP (run (buildM_l0_step x) (y_2,([],((((List.length y_2):Nat):Int),(0:Int))))) fun r =>
 (cS r (fun a =>
 True) (fun b =>
 ((pack_pre (x.1,(x.2.1,b.2))) ∧
 letP (pack (x.1,(x.2.1,b.2))) fun y_3 =>
 (¬ ((y_3.2 != (0:Int)) = true) →
 ((((((List.length x.2.2.2):Nat):Int) ≤ (((List.length x.2.2.2):Nat):Int)) ∧ ((List.length x.2.2.2) < 1099511627776)) ∧
 (Term (buildM_l2_step x) (buildM_l2_pre x) (b.1,(y_3.1,([],(0:Int)))) ∧
 letP (run (buildM_l2_step x) (b.1,(y_3.1,([],(0:Int))))) fun r_1 =>
 (Term (buildM_l4_step x) (buildM_l4_pre x) (r_1.2.1,(r_1.2.2,((List.replicate (List.length x.2.2.2) ((0:Int),((0:Int),((0:Int),(0:Int))))),(r_1.1,((((List.length r_1.1):Nat):Int),(0:Int)))))))))))))))))))
noncomputable def buildM_t (x : (Int × (Int × (Int × (List ((List Int) × ((List I6) × I2))))))) : Tr ((Int × (Int × (Int × ((List ((List Int) × ((List I6) × I2))) × (List (Int × I3)))))) × Int) true :=
 (.fn0 numbersM_S (x.1,(x.2.1,x.2.2.1)) trivial fun y =>
 (.b01 (!y)
 (.ret ((z0,(z0,(z0,([],[])))),z1))
 (.fn rightR_S x.2.2.2 fun y_1 =>
 (.b01 (!y_1)
 (.ret ((z0,(z0,(z0,([],[])))),z1))
 (.fn orderM_S x.2.2.2 fun y_2 =>
 (LoopD.lp (buildM_l0 x) (buildM_l0_t x) (y_2,([],((nL y_2),z0))) fun r =>
 (.s01 r (fun a =>
 (.ret ((z0,(z0,(z0,([],[])))),(9:Int)))) (fun b =>
 (.fn pack_S (x.1,(x.2.1,b.2)) fun y_3 =>
 (.b01 (y_3.2 != z0)
 (.ret ((z0,(z0,(z0,([],[])))),y_3.2))
 (.og (((decide (z0 ≤ (nL x.2.2.2))) && (decide ((nL x.2.2.2) ≤ (nL x.2.2.2)))) && (decide ((List.length x.2.2.2) < 1099511627776))) (((nL x.2.2.2) ≤ (nL x.2.2.2)) ∧ ((List.length x.2.2.2) < 1099511627776)) (fun h => (and_t (and_t rfl (decide_eq_true h.1)) (decide_eq_true h.2)))
 (LoopD.lp (buildM_l2 x) (buildM_l2_t x) (b.1,(y_3.1,([],z0))) fun r_1 =>
 (LoopD.lp (buildM_l4 x) (buildM_l4_t x) (r_1.2.1,(r_1.2.2,((List.replicate (List.length x.2.2.2) (z0,zz3)),(r_1.1,((nL r_1.1),z0))))) fun r_2 =>
 (.ret ((x.1,(x.2.1,(x.2.2.1,r_2))),z0)))))))))))))))
noncomputable abbrev buildM_S : FnS := ⟨(.pair (.one yi) (.pair (.one yi) (.pair (.one yi) (.one (Ty.sl (Ty.prod (Ty.sl yi) (Ty.prod (Ty.sl yy6) yy2))))))),(.pair (.agg (Ty.prod yi (Ty.prod yi (Ty.prod yi (Ty.prod (Ty.sl (Ty.prod (Ty.sl yi) (Ty.prod (Ty.sl yy6) yy2))) (Ty.sl (Ty.prod yi yy3))))))) (.one yi)),buildM_pre,buildM⟩
theorem buildM_ok : SpecOk Try.prog 8 (fnSpec buildM_S) := SpecOk.tr buildM_S buildM_t (fn := Try.f8) tt_ok sp_bld3_ok mixed (by kernel_rfl) (ItsOk.nil _ _) (fun x => (LpsOk.tr tt_ok (SpecsOk.ctxI sp_bld3_ok (ItsOk.nil _ _)) mixed 0 (buildM_l0 x) (buildM_l0_t x) (LpsOk.tr tt_ok (SpecsOk.ctxI sp_bld3_ok (ItsOk.nil _ _)) mixed 2 (buildM_l2 x) (buildM_l2_t x) (LpsOk.tr tt_ok (SpecsOk.ctxI sp_bld3_ok (ItsOk.nil _ _)) mixed 4 (buildM_l4 x) (buildM_l4_t x) LpsOk.nil (by kernel_rfl) fun g s Q => (by kernel_rfl)) (by kernel_rfl) fun g s Q => (by kernel_rfl)) (by kernel_rfl) fun g s Q => (by kernel_rfl))) (fun x => (by kernel_rfl)) fun x Q => (by kernel_rfl)
def sp_buildM : List (Nat × Ev.Spec) := (8,fnSpec buildM_S) :: sp_bld3
theorem sp_buildM_ok : SpecsOk Try.prog sp_buildM := SpecsOk.add (fn := Try.f8) (by kernel_rfl) buildM_ok sp_bld3_ok
noncomputable def isM_l0 (x : (Int × (Int × (Int × ((List ((List Int) × ((List I6) × I2))) × (List (Int × I3))))))) : LoopD := ⟨[],⟨pvs 61 0 [(1,.v (.one (.ptr 0 0))),(30,.v (.one (.full 1))),(31,.v (.one (.i .i64))),(32,.v (.one (.i .i64)))],[.cells [.i .i64,.i .i64,.i .i64,.full 1,.full 2] 26,.row (Ty.prod (Ty.sl yi) (Ty.prod (Ty.sl yy6) yy2)) 0,.row (Ty.prod yi yy3) 0],0,none,[],[0,2,3,4,5,6],[1],[.i],[.i (((List.length x.2.2.2.1):Nat):Int),.i x.1,.i x.2.1,.i x.2.2.1,.l (Ty.prod (Ty.sl yi) (Ty.prod (Ty.sl yy6) yy2)) x.2.2.2.1,.l (Ty.prod yi yy3) x.2.2.2.2]⟩,[⟨.ret,.ret,⟨pvs 61 0 [(2,.v (.one (.b)))],[],0,none,[],[0],[],[],[.b false]⟩⟩,⟨(.exit 0),.normal,⟨pvs 61 0 [(1,.v (.one (.ptr 0 0)))],[.cells [.i .i64,.i .i64,.i .i64,.full 1,.full 2] 26,.row (Ty.prod (Ty.sl yi) (Ty.prod (Ty.sl yy6) yy2)) 0,.row (Ty.prod yi yy3) 0],0,none,[],[0,1,2,3,4],[],[],[.i x.1,.i x.2.1,.i x.2.2.1,.l (Ty.prod (Ty.sl yi) (Ty.prod (Ty.sl yy6) yy2)) x.2.2.2.1,.l (Ty.prod yi yy3) x.2.2.2.2]⟩⟩]⟩
noncomputable def isM_l0_step (x : (Int × (Int × (Int × ((List ((List Int) × ((List I6) × I2))) × (List (Int × I3))))))) (s:Int) : Int ⊕ (Unit ⊕ Unit) :=
 (if (s < (((List.length x.2.2.2.1):Nat):Int)) then
 (letV (sizeM ((List.getD x.2.2.2.1 (Int.toNat s) ([],([],((0:Int),(0:Int))))),x.2.2.1)) fun y =>
 (if ((!(((List.getD x.2.2.2.2 (Int.toNat s) ((0:Int),((0:Int),((0:Int),(0:Int))))).2.2.1 == y.1) && (((List.getD x.2.2.2.2 (Int.toNat s) ((0:Int),((0:Int),((0:Int),(0:Int))))).2.2.2 == y.2) && true))) = true) then
 (Sum.inr (Sum.inl ())) else
 (Sum.inl (w64 (s + (1:Int)))))) else
 (Sum.inr (Sum.inr (()))))
noncomputable def isM_l0_pre (x : (Int × (Int × (Int × ((List ((List Int) × ((List I6) × I2))) × (List (Int × I3))))))) (s:Int) : Prop :=
 ((s < (((List.length x.2.2.2.1):Nat):Int)) →
 ((((0:Int) ≤ s) ∧ (s < (((List.length x.2.2.2.1):Nat):Int))) ∧
 (((Int.toNat s) < (List.length x.2.2.2.1)) ∧
 (((Int.toNat s) < (List.length x.2.2.2.1)) ∧
 ((((0:Int) ≤ s) ∧ (s < (((List.length x.2.2.2.2):Nat):Int))) ∧
 (((Int.toNat s) < (List.length x.2.2.2.2)) ∧
 ((Int.toNat s) < (List.length x.2.2.2.2))))))))
noncomputable def isM_l0_t (x : (Int × (Int × (Int × ((List ((List Int) × ((List I6) × I2))) × (List (Int × I3))))))) (s:Int) : Tr (Int ⊕ (Unit ⊕ Unit)) true :=
 (.i10 (s < (nL x.2.2.2.1))
 (.oR s (nL x.2.2.2.1)
 (.od ((tN s) < (List.length x.2.2.2.1))
 (.od ((tN s) < (List.length x.2.2.2.1))
 (.oR s (nL x.2.2.2.2)
 (.od ((tN s) < (List.length x.2.2.2.2))
 (.od ((tN s) < (List.length x.2.2.2.2))
 (.fn0 sizeM_S ((gT x.2.2.2.1 s ([],([],zz2))),x.2.2.1) trivial fun y =>
 (.b00 (!(((gT x.2.2.2.2 s (z0,zz3)).2.2.1 == y.1) && (((gT x.2.2.2.2 s (z0,zz3)).2.2.2 == y.2) && true)))
 (.ret (.inr (Sum.inl ())))
 (.ret (.inl (w1 s)))))))))))
 (.ret (.inr (Sum.inr (())))))
noncomputable def isM (x : (Int × (Int × (Int × ((List ((List Int) × ((List I6) × I2))) × (List (Int × I3))))))) : Bool :=
 (letV (numbersM (x.1,(x.2.1,x.2.2.1))) fun y =>
 (if ((!y) = true) then
 false else
 (if (((((List.length x.2.2.2.2):Nat):Int) != (((List.length x.2.2.2.1):Nat):Int)) = true) then
 false else
 (letV (rightR x.2.2.2.1) fun y_1 =>
 (if ((!y_1) = true) then
 false else
 (letV (run (isM_l0_step x) (0:Int)) fun r =>
 (Sum.elim (fun a =>
 false) (fun b =>
 (letV (shis (x.1,(x.2.1,x.2.2.2.2))) fun y_2 =>
 y_2)) r)))))))
noncomputable def isM_pre (x : (Int × (Int × (Int × ((List ((List Int) × ((List I6) × I2))) × (List (Int × I3))))))) : Prop :=
 (letP (numbersM (x.1,(x.2.1,x.2.2.1))) fun y =>
 (¬ ((!y) = true) →
 (¬ (((((List.length x.2.2.2.2):Nat):Int) != (((List.length x.2.2.2.1):Nat):Int)) = true) →
 ((rightR_pre x.2.2.2.1) ∧
 letP (rightR x.2.2.2.1) fun y_1 =>
 (¬ ((!y_1) = true) →
 (Term (isM_l0_step x) (isM_l0_pre x) (0:Int) ∧
 letP (run (isM_l0_step x) (0:Int)) fun r =>
 (cS r (fun a =>
 True) (fun b =>
 (shis_pre (x.1,(x.2.1,x.2.2.2.2)))))))))))
noncomputable def isM_t (x : (Int × (Int × (Int × ((List ((List Int) × ((List I6) × I2))) × (List (Int × I3))))))) : Tr Bool true :=
 (.fn0 numbersM_S (x.1,(x.2.1,x.2.2.1)) trivial fun y =>
 (.b01 (!y)
 (.ret false)
 (.b01 ((nL x.2.2.2.2) != (nL x.2.2.2.1))
 (.ret false)
 (.fn rightR_S x.2.2.2.1 fun y_1 =>
 (.b01 (!y_1)
 (.ret false)
 (LoopD.lp (isM_l0 x) (isM_l0_t x) z0 fun r =>
 (.s01 r (fun a =>
 (.ret false)) (fun b =>
 (.fn shis_S (x.1,(x.2.1,x.2.2.2.2)) fun y_2 =>
 (.ret y_2))))))))))
noncomputable abbrev isM_S : FnS := ⟨(.agg (Ty.prod yi (Ty.prod yi (Ty.prod yi (Ty.prod (Ty.sl (Ty.prod (Ty.sl yi) (Ty.prod (Ty.sl yy6) yy2))) (Ty.sl (Ty.prod yi yy3))))))),(.one Ty.bool),isM_pre,isM⟩
theorem isM_ok : SpecOk Try.prog 10 (fnSpec isM_S) := SpecOk.tr isM_S isM_t (fn := Try.f10) tt_ok sp_buildM_ok mixed (by kernel_rfl) (ItsOk.nil _ _) (fun x => (LpsOk.tr tt_ok (SpecsOk.ctxI sp_buildM_ok (ItsOk.nil _ _)) mixed 0 (isM_l0 x) (isM_l0_t x) LpsOk.nil (by kernel_rfl) fun g s Q => (by kernel_rfl))) (fun x => (by kernel_rfl)) fun x Q => (by kernel_rfl)
def sp_isM : List (Nat × Ev.Spec) := (10,fnSpec isM_S) :: sp_buildM
theorem sp_isM_ok : SpecsOk Try.prog sp_isM := SpecsOk.add (fn := Try.f10) (by kernel_rfl) isM_ok sp_buildM_ok
end Go.Proofs.Ytbjfokijjefoeaa
