/- Model of the law AtlasOrder. -/
import Derived.Test.YtbjfokijjefoeaaAm
namespace Go.Proofs.Ytbjfokijjefoeaa
open Go Go.Ev Go.Proofs
set_option linter.unusedVariables false
noncomputable def lawOrd_l0 (x : (List ((List Int) × ((List I6) × I2)))) : LoopD := ⟨[],⟨pvs 119 0 [(0,.v (.one (.full 0))),(3,.v (.one (.full 1))),(4,.v (.one (.full 2))),(5,.v (.one (.i .i64)))],[.row (Ty.prod (Ty.sl yi) (Ty.prod (Ty.sl yy6) yy2)) 0,.row yi 2,.row Ty.bool 2],0,none,[],[1],[2,3,0],[(.l yi),(.l Ty.bool),.i],[.l (Ty.prod (Ty.sl yi) (Ty.prod (Ty.sl yy6) yy2)) x]⟩,[⟨.ret,.ret,⟨pvs 119 0 [(2,.v (.one (.b)))],[],0,none,[],[0],[],[],[.b false]⟩⟩,⟨(.exit 0),.normal,⟨pvs 119 0 [],[],0,none,[],[],[],[],[]⟩⟩]⟩
noncomputable def lawOrd_l0_step (x : (List ((List Int) × ((List I6) × I2)))) (s : ((List Int) × ((List Bool) × Int))) : ((List Int) × ((List Bool) × Int)) ⊕ (Unit ⊕ Unit) :=
 (if (s.2.2 < (((List.length s.1):Nat):Int)) then
 (if ((List.getD s.1 (Int.toNat s.2.2) (0:Int)) < (0:Int)) then
 (Sum.inr (Sum.inl ())) else
 (if ((List.getD s.1 (Int.toNat s.2.2) (0:Int)) ≥ (((List.length x):Nat):Int)) then
 (Sum.inr (Sum.inl ())) else
 (if ((List.getD s.2.1 (Int.toNat (List.getD s.1 (Int.toNat s.2.2) (0:Int))) false) = true) then
 (Sum.inr (Sum.inl ())) else
 (letV (List.set s.2.1 (Int.toNat (List.getD s.1 (Int.toNat s.2.2) (0:Int))) true) fun y =>
 (if ((s.2.2 == (0:Int)) = true) then
 (Sum.inl (s.1,(y,(w64 (s.2.2 + (1:Int)))))) else
 (if ((List.getD x (Int.toNat (List.getD s.1 (Int.toNat (w64 (s.2.2 - (1:Int)))) (0:Int))) ([],([],((0:Int),(0:Int))))).2.2.2 < (List.getD x (Int.toNat (List.getD s.1 (Int.toNat s.2.2) (0:Int))) ([],([],((0:Int),(0:Int))))).2.2.2) then
 (Sum.inr (Sum.inl ())) else
 (if (((List.getD x (Int.toNat (List.getD s.1 (Int.toNat (w64 (s.2.2 - (1:Int)))) (0:Int))) ([],([],((0:Int),(0:Int))))).2.2.2 == (List.getD x (Int.toNat (List.getD s.1 (Int.toNat s.2.2) (0:Int))) ([],([],((0:Int),(0:Int))))).2.2.2) = true) then
 (if ((List.getD x (Int.toNat (List.getD s.1 (Int.toNat (w64 (s.2.2 - (1:Int)))) (0:Int))) ([],([],((0:Int),(0:Int))))).2.2.1 < (List.getD x (Int.toNat (List.getD s.1 (Int.toNat s.2.2) (0:Int))) ([],([],((0:Int),(0:Int))))).2.2.1) then
 (Sum.inr (Sum.inl ())) else
 (if (((List.getD x (Int.toNat (List.getD s.1 (Int.toNat (w64 (s.2.2 - (1:Int)))) (0:Int))) ([],([],((0:Int),(0:Int))))).2.2.2 == (List.getD x (Int.toNat (List.getD s.1 (Int.toNat s.2.2) (0:Int))) ([],([],((0:Int),(0:Int))))).2.2.2) = true) then
 (if (((List.getD x (Int.toNat (List.getD s.1 (Int.toNat (w64 (s.2.2 - (1:Int)))) (0:Int))) ([],([],((0:Int),(0:Int))))).2.2.1 == (List.getD x (Int.toNat (List.getD s.1 (Int.toNat s.2.2) (0:Int))) ([],([],((0:Int),(0:Int))))).2.2.1) = true) then
 (if ((List.getD s.1 (Int.toNat (w64 (s.2.2 - (1:Int)))) (0:Int)) > (List.getD s.1 (Int.toNat s.2.2) (0:Int))) then
 (Sum.inr (Sum.inl ())) else
 (Sum.inl (s.1,(y,(w64 (s.2.2 + (1:Int))))))) else
 (Sum.inl (s.1,(y,(w64 (s.2.2 + (1:Int))))))) else
 (Sum.inl (s.1,(y,(w64 (s.2.2 + (1:Int)))))))) else
 (if (((List.getD x (Int.toNat (List.getD s.1 (Int.toNat (w64 (s.2.2 - (1:Int)))) (0:Int))) ([],([],((0:Int),(0:Int))))).2.2.2 == (List.getD x (Int.toNat (List.getD s.1 (Int.toNat s.2.2) (0:Int))) ([],([],((0:Int),(0:Int))))).2.2.2) = true) then
 (if (((List.getD x (Int.toNat (List.getD s.1 (Int.toNat (w64 (s.2.2 - (1:Int)))) (0:Int))) ([],([],((0:Int),(0:Int))))).2.2.1 == (List.getD x (Int.toNat (List.getD s.1 (Int.toNat s.2.2) (0:Int))) ([],([],((0:Int),(0:Int))))).2.2.1) = true) then
 (if ((List.getD s.1 (Int.toNat (w64 (s.2.2 - (1:Int)))) (0:Int)) > (List.getD s.1 (Int.toNat s.2.2) (0:Int))) then
 (Sum.inr (Sum.inl ())) else
 (Sum.inl (s.1,(y,(w64 (s.2.2 + (1:Int))))))) else
 (Sum.inl (s.1,(y,(w64 (s.2.2 + (1:Int))))))) else
 (Sum.inl (s.1,(y,(w64 (s.2.2 + (1:Int)))))))))))))) else
 (Sum.inr (Sum.inr (()))))
noncomputable def lawOrd_l0_pre (x : (List ((List Int) × ((List I6) × I2)))) (s : ((List Int) × ((List Bool) × Int))) : Prop :=
 ((s.2.2 < (((List.length s.1):Nat):Int)) →
 ((((0:Int) ≤ s.2.2) ∧ (s.2.2 < (((List.length s.1):Nat):Int))) ∧
 (((Int.toNat s.2.2) < (List.length s.1)) ∧
 (((Int.toNat s.2.2) < (List.length s.1)) ∧
 (¬ ((List.getD s.1 (Int.toNat s.2.2) (0:Int)) < (0:Int)) →
 ((((0:Int) ≤ s.2.2) ∧ (s.2.2 < (((List.length s.1):Nat):Int))) ∧
 (((Int.toNat s.2.2) < (List.length s.1)) ∧
 (((Int.toNat s.2.2) < (List.length s.1)) ∧
 (¬ ((List.getD s.1 (Int.toNat s.2.2) (0:Int)) ≥ (((List.length x):Nat):Int)) →
 ((((0:Int) ≤ s.2.2) ∧ (s.2.2 < (((List.length s.1):Nat):Int))) ∧
 (((Int.toNat s.2.2) < (List.length s.1)) ∧
 (((Int.toNat s.2.2) < (List.length s.1)) ∧
 ((((0:Int) ≤ (List.getD s.1 (Int.toNat s.2.2) (0:Int))) ∧ ((List.getD s.1 (Int.toNat s.2.2) (0:Int)) < (((List.length s.2.1):Nat):Int))) ∧
 (((Int.toNat (List.getD s.1 (Int.toNat s.2.2) (0:Int))) < (List.length s.2.1)) ∧
 (((Int.toNat (List.getD s.1 (Int.toNat s.2.2) (0:Int))) < (List.length s.2.1)) ∧
 (¬ ((List.getD s.2.1 (Int.toNat (List.getD s.1 (Int.toNat s.2.2) (0:Int))) false) = true) →
 ((((0:Int) ≤ s.2.2) ∧ (s.2.2 < (((List.length s.1):Nat):Int))) ∧
 (((Int.toNat s.2.2) < (List.length s.1)) ∧
 (((Int.toNat s.2.2) < (List.length s.1)) ∧
 ((((0:Int) ≤ (List.getD s.1 (Int.toNat s.2.2) (0:Int))) ∧ ((List.getD s.1 (Int.toNat s.2.2) (0:Int)) < (((List.length s.2.1):Nat):Int))) ∧
 (((Int.toNat (List.getD s.1 (Int.toNat s.2.2) (0:Int))) < (List.length s.2.1)) ∧
 (((Int.toNat (List.getD s.1 (Int.toNat s.2.2) (0:Int))) < (List.length s.2.1)) ∧
 (letP (List.set s.2.1 (Int.toNat (List.getD s.1 (Int.toNat s.2.2) (0:Int))) true) fun y =>
 (¬ ((s.2.2 == (0:Int)) = true) →
 ((((0:Int) ≤ (w64 (s.2.2 - (1:Int)))) ∧ ((w64 (s.2.2 - (1:Int))) < (((List.length s.1):Nat):Int))) ∧
 (((Int.toNat (w64 (s.2.2 - (1:Int)))) < (List.length s.1)) ∧
 (((Int.toNat (w64 (s.2.2 - (1:Int)))) < (List.length s.1)) ∧
 ((((0:Int) ≤ (List.getD s.1 (Int.toNat (w64 (s.2.2 - (1:Int)))) (0:Int))) ∧ ((List.getD s.1 (Int.toNat (w64 (s.2.2 - (1:Int)))) (0:Int)) < (((List.length x):Nat):Int))) ∧
 (((Int.toNat (List.getD s.1 (Int.toNat (w64 (s.2.2 - (1:Int)))) (0:Int))) < (List.length x)) ∧
 (((Int.toNat (List.getD s.1 (Int.toNat (w64 (s.2.2 - (1:Int)))) (0:Int))) < (List.length x)) ∧
 ((((0:Int) ≤ s.2.2) ∧ (s.2.2 < (((List.length s.1):Nat):Int))) ∧
 (((Int.toNat s.2.2) < (List.length s.1)) ∧
 (((Int.toNat s.2.2) < (List.length s.1)) ∧
 ((((0:Int) ≤ (List.getD s.1 (Int.toNat s.2.2) (0:Int))) ∧ ((List.getD s.1 (Int.toNat s.2.2) (0:Int)) < (((List.length x):Nat):Int))) ∧
 (((Int.toNat (List.getD s.1 (Int.toNat s.2.2) (0:Int))) < (List.length x)) ∧
 (((Int.toNat (List.getD s.1 (Int.toNat s.2.2) (0:Int))) < (List.length x)) ∧
 (¬ ((List.getD x (Int.toNat (List.getD s.1 (Int.toNat (w64 (s.2.2 - (1:Int)))) (0:Int))) ([],([],((0:Int),(0:Int))))).2.2.2 < (List.getD x (Int.toNat (List.getD s.1 (Int.toNat s.2.2) (0:Int))) ([],([],((0:Int),(0:Int))))).2.2.2) →
 (((((List.getD x (Int.toNat (List.getD s.1 (Int.toNat (w64 (s.2.2 - (1:Int)))) (0:Int))) ([],([],((0:Int),(0:Int))))).2.2.2 == (List.getD x (Int.toNat (List.getD s.1 (Int.toNat s.2.2) (0:Int))) ([],([],((0:Int),(0:Int))))).2.2.2) = true) →
 (¬ ((List.getD x (Int.toNat (List.getD s.1 (Int.toNat (w64 (s.2.2 - (1:Int)))) (0:Int))) ([],([],((0:Int),(0:Int))))).2.2.1 < (List.getD x (Int.toNat (List.getD s.1 (Int.toNat s.2.2) (0:Int))) ([],([],((0:Int),(0:Int))))).2.2.1) →
 ((((List.getD x (Int.toNat (List.getD s.1 (Int.toNat (w64 (s.2.2 - (1:Int)))) (0:Int))) ([],([],((0:Int),(0:Int))))).2.2.2 == (List.getD x (Int.toNat (List.getD s.1 (Int.toNat s.2.2) (0:Int))) ([],([],((0:Int),(0:Int))))).2.2.2) = true) →
 ((((List.getD x (Int.toNat (List.getD s.1 (Int.toNat (w64 (s.2.2 - (1:Int)))) (0:Int))) ([],([],((0:Int),(0:Int))))).2.2.1 == (List.getD x (Int.toNat (List.getD s.1 (Int.toNat s.2.2) (0:Int))) ([],([],((0:Int),(0:Int))))).2.2.1) = true) →
 ((((0:Int) ≤ (w64 (s.2.2 - (1:Int)))) ∧ ((w64 (s.2.2 - (1:Int))) < (((List.length s.1):Nat):Int))) ∧
 (((Int.toNat (w64 (s.2.2 - (1:Int)))) < (List.length s.1)) ∧
 (((Int.toNat (w64 (s.2.2 - (1:Int)))) < (List.length s.1)) ∧
 ((((0:Int) ≤ s.2.2) ∧ (s.2.2 < (((List.length s.1):Nat):Int))) ∧
 (((Int.toNat s.2.2) < (List.length s.1)) ∧
 ((Int.toNat s.2.2) < (List.length s.1))))))))))) ∧
 (¬ (((List.getD x (Int.toNat (List.getD s.1 (Int.toNat (w64 (s.2.2 - (1:Int)))) (0:Int))) ([],([],((0:Int),(0:Int))))).2.2.2 == (List.getD x (Int.toNat (List.getD s.1 (Int.toNat s.2.2) (0:Int))) ([],([],((0:Int),(0:Int))))).2.2.2) = true) →
 ((((List.getD x (Int.toNat (List.getD s.1 (Int.toNat (w64 (s.2.2 - (1:Int)))) (0:Int))) ([],([],((0:Int),(0:Int))))).2.2.2 == (List.getD x (Int.toNat (List.getD s.1 (Int.toNat s.2.2) (0:Int))) ([],([],((0:Int),(0:Int))))).2.2.2) = true) →
 ((((List.getD x (Int.toNat (List.getD s.1 (Int.toNat (w64 (s.2.2 - (1:Int)))) (0:Int))) ([],([],((0:Int),(0:Int))))).2.2.1 == (List.getD x (Int.toNat (List.getD s.1 (Int.toNat s.2.2) (0:Int))) ([],([],((0:Int),(0:Int))))).2.2.1) = true) →
 ((((0:Int) ≤ (w64 (s.2.2 - (1:Int)))) ∧ ((w64 (s.2.2 - (1:Int))) < (((List.length s.1):Nat):Int))) ∧
 (((Int.toNat (w64 (s.2.2 - (1:Int)))) < (List.length s.1)) ∧
 (((Int.toNat (w64 (s.2.2 - (1:Int)))) < (List.length s.1)) ∧
 ((((0:Int) ≤ s.2.2) ∧ (s.2.2 < (((List.length s.1):Nat):Int))) ∧
 (((Int.toNat s.2.2) < (List.length s.1)) ∧
 ((Int.toNat s.2.2) < (List.length s.1))))))))))))))))))))))))))))))))))))))))))))))))
noncomputable def lawOrd_l0_t (x : (List ((List Int) × ((List I6) × I2)))) (s : ((List Int) × ((List Bool) × Int))) : Tr (((List Int) × ((List Bool) × Int)) ⊕ (Unit ⊕ Unit)) true :=
 (.i10 (s.2.2 < (nL s.1))
 (.oR s.2.2 (nL s.1)
 (.od ((tN s.2.2) < (List.length s.1))
 (.od ((tN s.2.2) < (List.length s.1))
 (.i01 ((gI s.1 s.2.2) < z0)
 (.ret (.inr (Sum.inl ())))
 (.oR s.2.2 (nL s.1)
 (.od ((tN s.2.2) < (List.length s.1))
 (.od ((tN s.2.2) < (List.length s.1))
 (.i01 ((gI s.1 s.2.2) ≥ (nL x))
 (.ret (.inr (Sum.inl ())))
 (.oR s.2.2 (nL s.1)
 (.od ((tN s.2.2) < (List.length s.1))
 (.od ((tN s.2.2) < (List.length s.1))
 (.oR (gI s.1 s.2.2) (nL s.2.1)
 (.od ((tN (gI s.1 s.2.2)) < (List.length s.2.1))
 (.od ((tN (gI s.1 s.2.2)) < (List.length s.2.1))
 (.b01 (gT s.2.1 (gI s.1 s.2.2) false)
 (.ret (.inr (Sum.inl ())))
 (.oR s.2.2 (nL s.1)
 (.od ((tN s.2.2) < (List.length s.1))
 (.od ((tN s.2.2) < (List.length s.1))
 (.oR (gI s.1 s.2.2) (nL s.2.1)
 (.od ((tN (gI s.1 s.2.2)) < (List.length s.2.1))
 (.od ((tN (gI s.1 s.2.2)) < (List.length s.2.1))
 (.lt (List.set s.2.1 (tN (gI s.1 s.2.2)) true) fun y =>
 (.b01 (s.2.2 == z0)
 (.ret (.inl (s.1,(y,(w1 s.2.2)))))
 (.oR (wm s.2.2) (nL s.1)
 (.od ((tN (wm s.2.2)) < (List.length s.1))
 (.od ((tN (wm s.2.2)) < (List.length s.1))
 (.oR (gI s.1 (wm s.2.2)) (nL x)
 (.od ((tN (gI s.1 (wm s.2.2))) < (List.length x))
 (.od ((tN (gI s.1 (wm s.2.2))) < (List.length x))
 (.oR s.2.2 (nL s.1)
 (.od ((tN s.2.2) < (List.length s.1))
 (.od ((tN s.2.2) < (List.length s.1))
 (.oR (gI s.1 s.2.2) (nL x)
 (.od ((tN (gI s.1 s.2.2)) < (List.length x))
 (.od ((tN (gI s.1 s.2.2)) < (List.length x))
 (.i01 ((gT x (gI s.1 (wm s.2.2)) ([],([],zz2))).2.2.2 < (gT x (gI s.1 s.2.2) ([],([],zz2))).2.2.2)
 (.ret (.inr (Sum.inl ())))
 (.b11 ((gT x (gI s.1 (wm s.2.2)) ([],([],zz2))).2.2.2 == (gT x (gI s.1 s.2.2) ([],([],zz2))).2.2.2)
 (.i01 ((gT x (gI s.1 (wm s.2.2)) ([],([],zz2))).2.2.1 < (gT x (gI s.1 s.2.2) ([],([],zz2))).2.2.1)
 (.ret (.inr (Sum.inl ())))
 (.b10 ((gT x (gI s.1 (wm s.2.2)) ([],([],zz2))).2.2.2 == (gT x (gI s.1 s.2.2) ([],([],zz2))).2.2.2)
 (.b10 ((gT x (gI s.1 (wm s.2.2)) ([],([],zz2))).2.2.1 == (gT x (gI s.1 s.2.2) ([],([],zz2))).2.2.1)
 (.oR (wm s.2.2) (nL s.1)
 (.od ((tN (wm s.2.2)) < (List.length s.1))
 (.od ((tN (wm s.2.2)) < (List.length s.1))
 (.oR s.2.2 (nL s.1)
 (.od ((tN s.2.2) < (List.length s.1))
 (.od ((tN s.2.2) < (List.length s.1))
 (.i00 ((gI s.1 (wm s.2.2)) > (gI s.1 s.2.2))
 (.ret (.inr (Sum.inl ())))
 (.ret (.inl (s.1,(y,(w1 s.2.2))))))))))))
 (.ret (.inl (s.1,(y,(w1 s.2.2))))))
 (.ret (.inl (s.1,(y,(w1 s.2.2)))))))
 (.b10 ((gT x (gI s.1 (wm s.2.2)) ([],([],zz2))).2.2.2 == (gT x (gI s.1 s.2.2) ([],([],zz2))).2.2.2)
 (.b10 ((gT x (gI s.1 (wm s.2.2)) ([],([],zz2))).2.2.1 == (gT x (gI s.1 s.2.2) ([],([],zz2))).2.2.1)
 (.oR (wm s.2.2) (nL s.1)
 (.od ((tN (wm s.2.2)) < (List.length s.1))
 (.od ((tN (wm s.2.2)) < (List.length s.1))
 (.oR s.2.2 (nL s.1)
 (.od ((tN s.2.2) < (List.length s.1))
 (.od ((tN s.2.2) < (List.length s.1))
 (.i00 ((gI s.1 (wm s.2.2)) > (gI s.1 s.2.2))
 (.ret (.inr (Sum.inl ())))
 (.ret (.inl (s.1,(y,(w1 s.2.2))))))))))))
 (.ret (.inl (s.1,(y,(w1 s.2.2))))))
 (.ret (.inl (s.1,(y,(w1 s.2.2)))))))))))))))))))))))))))))))))))))))))))
 (.ret (.inr (Sum.inr (())))))
noncomputable def lawOrd (x : (List ((List Int) × ((List I6) × I2)))) : Bool :=
 (if ((((List.length x):Nat):Int) > (30:Int)) then
 true else
 (letV (orderM x) fun y =>
 (if (((((List.length y):Nat):Int) != (((List.length x):Nat):Int)) = true) then
 false else
 (letV (run (lawOrd_l0_step x) (y,((List.replicate (List.length x) false),(0:Int)))) fun r =>
 (Sum.elim (fun a =>
 false) (fun b =>
 (letV (mappedL false) fun y_1 =>
 y_1)) r)))))
noncomputable def lawOrd_pre (x : (List ((List Int) × ((List I6) × I2)))) : Prop :=
 (¬ ((((List.length x):Nat):Int) > (30:Int)) →
 ((orderM_pre x) ∧
 letP (orderM x) fun y =>
 (¬ (((((List.length y):Nat):Int) != (((List.length x):Nat):Int)) = true) →
 ((((((List.length x):Nat):Int) ≤ (((List.length x):Nat):Int)) ∧ ((List.length x) < 1099511627776)) ∧
 (Term (lawOrd_l0_step x) (lawOrd_l0_pre x) (y,((List.replicate (List.length x) false),(0:Int))) ∧
 letP (run (lawOrd_l0_step x) (y,((List.replicate (List.length x) false),(0:Int)))) fun r =>
 (cS r (fun a =>
 True) (fun b =>
 (mappedL_pre false))))))))
noncomputable def lawOrd_t (x : (List ((List Int) × ((List I6) × I2)))) : Tr Bool true :=
 (.i01 ((nL x) > (30:Int))
 (.ret true)
 (.fn orderM_S x fun y =>
 (.b01 ((nL y) != (nL x))
 (.ret false)
 (.og (((decide (z0 ≤ (nL x))) && (decide ((nL x) ≤ (nL x)))) && (decide ((List.length x) < 1099511627776))) (((nL x) ≤ (nL x)) ∧ ((List.length x) < 1099511627776)) (fun h => (and_t (and_t rfl (decide_eq_true h.1)) (decide_eq_true h.2)))
 (LoopD.lp (lawOrd_l0 x) (lawOrd_l0_t x) (y,((List.replicate (List.length x) false),z0)) fun r =>
 (.s01 r (fun a =>
 (.ret false)) (fun b =>
 (.fn mappedL_S false fun y_1 =>
 (.ret y_1)))))))))
noncomputable abbrev lawOrd_S : FnS := ⟨(.one (Ty.sl (Ty.prod (Ty.sl yi) (Ty.prod (Ty.sl yy6) yy2)))),(.one Ty.bool),lawOrd_pre,lawOrd⟩
theorem lawOrd_ok : SpecOk Try.prog 6 (fnSpec lawOrd_S) := SpecOk.tr lawOrd_S lawOrd_t (fn := Try.f6) tt_ok sp_mappedL_ok mixed (by kernel_rfl) (ItsOk.nil _ _) (fun x => (LpsOk.tr tt_ok (SpecsOk.ctxI sp_mappedL_ok (ItsOk.nil _ _)) mixed 0 (lawOrd_l0 x) (lawOrd_l0_t x) LpsOk.nil (by kernel_rfl) fun g s Q => (by kernel_rfl))) (fun x => (by kernel_rfl)) fun x Q => (by kernel_rfl)
def sp_lawOrd : List (Nat × Ev.Spec) := (6,fnSpec lawOrd_S) :: sp_mappedL
theorem sp_lawOrd_ok : SpecsOk Try.prog sp_lawOrd := SpecsOk.add (fn := Try.f6) (by kernel_rfl) lawOrd_ok sp_mappedL_ok
end Go.Proofs.Ytbjfokijjefoeaa
