/- Models of functions of layer 18. -/
import Derived.Test.YtbjfokijjefoeaaTp
import Derived.Test.YtbjfokijjefoeaaFf
namespace Go.Proofs.Ytbjfokijjefoeaa
open Go Go.Ev Go.Proofs
set_option linter.unusedVariables false
theorem key_3 : KeyE tt 3 yi := fun x y => by rfl
noncomputable def orderM_l0 (x : (List ((List Int) × ((List I6) × I2)))) : LoopD := ⟨[],⟨pvs 23 0 [(0,.v (.one (.full 0))),(3,.v (.one (.full 1))),(9,.v (.one (.i .i64))),(10,.v (.one (.i .i64)))],[.row (Ty.prod (Ty.sl yi) (Ty.prod (Ty.sl yy6) yy2)) 0,.row yi 2],0,none,[],[0,2],[3,1],[(.l yi),.i],[.i (((List.length (List.replicate (List.length x) (0:Int))):Nat):Int),.l (Ty.prod (Ty.sl yi) (Ty.prod (Ty.sl yy6) yy2)) x]⟩,[⟨(.exit 0),.normal,⟨pvs 23 0 [(0,.v (.one (.full 0))),(3,.v (.one (.full 1)))],[.row (Ty.prod (Ty.sl yi) (Ty.prod (Ty.sl yy6) yy2)) 0,.row yi 2],0,none,[],[0],[1],[(.l yi)],[.l (Ty.prod (Ty.sl yi) (Ty.prod (Ty.sl yy6) yy2)) x]⟩⟩]⟩
noncomputable def orderM_l0_step (x : (List ((List Int) × ((List I6) × I2)))) (s : ((List Int) × Int)) : ((List Int) × Int) ⊕ (List Int) :=
 (if (s.2 < (((List.length (List.replicate (List.length x) (0:Int))):Nat):Int)) then
 (letV (List.set s.1 (Int.toNat s.2) s.2) fun y =>
 (Sum.inl (y,(w64 (s.2 + (1:Int)))))) else
 (Sum.inr (s.1)))
noncomputable def orderM_l0_pre (x : (List ((List Int) × ((List I6) × I2)))) (s : ((List Int) × Int)) : Prop :=
 ((s.2 < (((List.length (List.replicate (List.length x) (0:Int))):Nat):Int)) →
 ((((0:Int) ≤ s.2) ∧ (s.2 < (((List.length s.1):Nat):Int))) ∧
 (((Int.toNat s.2) < (List.length s.1)) ∧
 ((Int.toNat s.2) < (List.length s.1)))))
noncomputable def orderM_l0_t (x : (List ((List Int) × ((List I6) × I2)))) (s : ((List Int) × Int)) : Tr (((List Int) × Int) ⊕ (List Int)) true :=
 (.i10 (s.2 < (nL (List.replicate (List.length x) z0)))
 (.oR s.2 (nL s.1)
 (.od ((tN s.2) < (List.length s.1))
 (.od ((tN s.2) < (List.length s.1))
 (.lt (List.set s.1 (tN s.2) s.2) fun y =>
 (.ret (.inl (y,(w1 s.2))))))))
 (.ret (.inr (s.1))))
noncomputable def orderM (x : (List ((List Int) × ((List I6) × I2)))) : (List Int) :=
 (letV (run (orderM_l0_step x) ((List.replicate (List.length x) (0:Int)),(0:Int))) fun r =>
 (letV (sortM (r,x)) fun y =>
 y.2.1))
noncomputable def orderM_pre (x : (List ((List Int) × ((List I6) × I2)))) : Prop :=
 ((((((List.length x):Nat):Int) ≤ (((List.length x):Nat):Int)) ∧ ((List.length x) < 1099511627776)) ∧
 (Term (orderM_l0_step x) (orderM_l0_pre x) ((List.replicate (List.length x) (0:Int)),(0:Int)) ∧
 letP (run (orderM_l0_step x) ((List.replicate (List.length x) (0:Int)),(0:Int))) fun r =>
 (sortM_pre (r,x))))
noncomputable def orderM_t (x : (List ((List Int) × ((List I6) × I2)))) : Tr (List Int) true :=
 (.og (((decide (z0 ≤ (nL x))) && (decide ((nL x) ≤ (nL x)))) && (decide ((List.length x) < 1099511627776))) (((nL x) ≤ (nL x)) ∧ ((List.length x) < 1099511627776)) (fun h => (and_t (and_t rfl (decide_eq_true h.1)) (decide_eq_true h.2)))
 (LoopD.lp (orderM_l0 x) (orderM_l0_t x) ((List.replicate (List.length x) z0),z0) fun r =>
 (.fnW sortM_S (r,x) fun y =>
 (.ret y.2.1))))
noncomputable abbrev orderM_S : FnS := ⟨(.one (Ty.sl (Ty.prod (Ty.sl yi) (Ty.prod (Ty.sl yy6) yy2)))),(.one (Ty.sl yi)),orderM_pre,orderM⟩
theorem orderM_ok : SpecOk Try.prog 14 (fnSpec orderM_S) := SpecOk.tr orderM_S orderM_t (fn := Try.f14) tt_ok sp_sortM_ok mixed (by kernel_rfl) (ItsOk.nil _ _) (fun x => (LpsOk.tr tt_ok (SpecsOk.ctxI sp_sortM_ok (ItsOk.nil _ _)) mixed 0 (orderM_l0 x) (orderM_l0_t x) LpsOk.nil (by kernel_rfl) fun g s Q => (by kernel_rfl))) (fun x => (by kernel_rfl)) fun x Q => (by kernel_rfl)
def sp_orderM : List (Nat × Ev.Spec) := (14,fnSpec orderM_S) :: sp_sortM
theorem sp_orderM_ok : SpecsOk Try.prog sp_orderM := SpecsOk.add (fn := Try.f14) (by kernel_rfl) orderM_ok sp_sortM_ok
noncomputable def numbersM (x : I3) : Bool :=
 (if ((minI (minI x.1 x.2.1) x.2.2) ≥ (1:Int)) then
 (if ((maxI x.1 x.2.1) ≤ (256:Int)) then
 (decide (x.2.2 ≤ (8:Int))) else
 false) else
 false)
noncomputable def numbersM_pre (_ : I3) : Prop := True
noncomputable def numbersM_t (x : I3) : Tr Bool false :=
 (.i00 ((minI (minI x.1 x.2.1) x.2.2) ≥ z1)
 (.i00 ((maxI x.1 x.2.1) ≤ (256:Int))
 (.ret (decide (x.2.2 ≤ (8:Int))))
 (.ret false))
 (.ret false))
noncomputable abbrev numbersM_S : FnS := ⟨(.pair (.one yi) (.pair (.one yi) (.one yi))),(.one Ty.bool),numbersM_pre,numbersM⟩
theorem numbersM_ok : SpecOk Try.prog 16 (fnSpec numbersM_S) := SpecOk.tr numbersM_S numbersM_t (fn := Try.f16) tt_ok sp_fmove_ok mixed (by kernel_rfl) (ItsOk.nil _ _) (fun x => LpsOk.nil) (fun x => (by kernel_rfl)) fun x Q => (by kernel_rfl)
def sp_numbersM : List (Nat × Ev.Spec) := (16,fnSpec numbersM_S) :: sp_fmove
theorem sp_numbersM_ok : SpecsOk Try.prog sp_numbersM := SpecsOk.add (fn := Try.f16) (by kernel_rfl) numbersM_ok sp_fmove_ok
noncomputable def rightR_l2 (x : (List ((List Int) × ((List I6) × I2)))) : LoopD := ⟨[],⟨pvs 32 0 [(3,.v (.one (.mp 0))),(9,.v (.one (.full 1))),(10,.v (.one (.i .i64))),(11,.v (.one (.i .i64))),(19,.v (.one (.full 2))),(20,.v (.one (.i .i64))),(21,.v (.one (.i .i64)))],[.map Bool.false Bool.false yi Ty.bool,.row (Ty.prod (Ty.sl yi) (Ty.prod (Ty.sl yy6) yy2)) 0,.row yi 0],0,none,[],[0,5],[4,1,6,2,3],[(.l (.prod yi Ty.bool)),.i,(.l yi),.i,.i],[.i (((List.length x):Nat):Int),.l (Ty.prod (Ty.sl yi) (Ty.prod (Ty.sl yy6) yy2)) x]⟩,[⟨.ret,.ret,⟨pvs 32 0 [(2,.v (.one (.b)))],[],0,none,[],[0],[],[],[.b false]⟩⟩,⟨(.exit 2),.normal,⟨pvs 32 0 [(3,.v (.one (.mp 0))),(9,.v (.one (.full 1))),(10,.v (.one (.i .i64))),(11,.v (.one (.i .i64)))],[.map Bool.false Bool.false yi Ty.bool,.row (Ty.prod (Ty.sl yi) (Ty.prod (Ty.sl yy6) yy2)) 0],0,none,[],[0,3],[2,1],[(.l (.prod yi Ty.bool)),.i],[.i (((List.length x):Nat):Int),.l (Ty.prod (Ty.sl yi) (Ty.prod (Ty.sl yy6) yy2)) x]⟩⟩]⟩
noncomputable def rightR_l2_step (x : (List ((List Int) × ((List I6) × I2)))) (s : ((List (Int × Bool)) × (Int × ((List Int) × I2)))) : ((List (Int × Bool)) × (Int × ((List Int) × I2))) ⊕ (Unit ⊕ ((List (Int × Bool)) × Int)) :=
 (if (s.2.2.2.2 < s.2.2.2.1) then
 (letV (lookD (k := yi) s.1 (List.getD s.2.2.1 (Int.toNat s.2.2.2.2) (0:Int)) false) fun y =>
 (if (y = true) then
 (Sum.inr (Sum.inl ())) else
 (letV (putM (k := yi) s.1 (List.getD s.2.2.1 (Int.toNat s.2.2.2.2) (0:Int)) true) fun y_1 =>
 (Sum.inl (y_1,(s.2.1,(s.2.2.1,(s.2.2.2.1,(w64 (s.2.2.2.2 + (1:Int))))))))))) else
 (Sum.inr (Sum.inr ((s.1,s.2.1)))))
noncomputable def rightR_l2_pre (x : (List ((List Int) × ((List I6) × I2)))) (s : ((List (Int × Bool)) × (Int × ((List Int) × I2)))) : Prop :=
 ((s.2.2.2.2 < s.2.2.2.1) →
 ((((0:Int) ≤ s.2.2.2.2) ∧ (s.2.2.2.2 < (((List.length s.2.2.1):Nat):Int))) ∧
 (((Int.toNat s.2.2.2.2) < (List.length s.2.2.1)) ∧
 ((Int.toNat s.2.2.2.2) < (List.length s.2.2.1)))))
noncomputable def rightR_l2_t (x : (List ((List Int) × ((List I6) × I2)))) (s : ((List (Int × Bool)) × (Int × ((List Int) × I2)))) : Tr (((List (Int × Bool)) × (Int × ((List Int) × I2))) ⊕ (Unit ⊕ ((List (Int × Bool)) × Int))) true :=
 (.i10 (s.2.2.2.2 < s.2.2.2.1)
 (.oR s.2.2.2.2 (nL s.2.2.1)
 (.od ((tN s.2.2.2.2) < (List.length s.2.2.1))
 (.od ((tN s.2.2.2.2) < (List.length s.2.2.1))
 (.fact (KeyE tt 3 yi) key_3
 (.lt (lookD (k := yi) s.1 (gI s.2.2.1 s.2.2.2.2) false) fun y =>
 (.b00 y
 (.ret (.inr (Sum.inl ())))
 (.fact (KeyE tt 3 yi) key_3
 (.lt (putM (k := yi) s.1 (gI s.2.2.1 s.2.2.2.2) true) fun y_1 =>
 (.ret (.inl (y_1,(s.2.1,(s.2.2.1,(s.2.2.2.1,(w1 s.2.2.2.2)))))))))))))))
 (.ret (.inr (Sum.inr ((s.1,s.2.1))))))
noncomputable def rightR_l0 (x : (List ((List Int) × ((List I6) × I2)))) : LoopD := ⟨[],⟨pvs 32 0 [(3,.v (.one (.mp 0))),(9,.v (.one (.full 1))),(10,.v (.one (.i .i64))),(11,.v (.one (.i .i64)))],[.map Bool.false Bool.false yi Ty.bool,.row (Ty.prod (Ty.sl yi) (Ty.prod (Ty.sl yy6) yy2)) 0],0,none,[],[0,3],[2,1],[(.l (.prod yi Ty.bool)),.i],[.i (((List.length x):Nat):Int),.l (Ty.prod (Ty.sl yi) (Ty.prod (Ty.sl yy6) yy2)) x]⟩,[⟨.ret,.ret,⟨pvs 32 0 [(2,.v (.one (.b)))],[],0,none,[],[0],[],[],[.b false]⟩⟩,⟨(.exit 0),.normal,⟨pvs 32 0 [],[],0,none,[],[],[],[],[]⟩⟩]⟩
noncomputable def rightR_l0_step (x : (List ((List Int) × ((List I6) × I2)))) (s : ((List (Int × Bool)) × Int)) : ((List (Int × Bool)) × Int) ⊕ (Unit ⊕ Unit) :=
 (if (s.2 < (((List.length x):Nat):Int)) then
 (letV (fis (List.getD x (Int.toNat s.2) ([],([],((0:Int),(0:Int)))))) fun y =>
 (if ((!y) = true) then
 (Sum.inr (Sum.inl ())) else
 (letV (run (rightR_l2_step x) (s.1,(s.2,((List.getD x (Int.toNat s.2) ([],([],((0:Int),(0:Int))))).1,((((List.length (List.getD x (Int.toNat s.2) ([],([],((0:Int),(0:Int))))).1):Nat):Int),(0:Int)))))) fun r =>
 (Sum.elim (fun a =>
 (Sum.inr (Sum.inl ()))) (fun b =>
 (Sum.inl (b.1,(w64 (b.2 + (1:Int)))))) r)))) else
 (Sum.inr (Sum.inr (()))))
noncomputable def rightR_l0_pre (x : (List ((List Int) × ((List I6) × I2)))) (s : ((List (Int × Bool)) × Int)) : Prop :=
 ((s.2 < (((List.length x):Nat):Int)) →
 ((((0:Int) ≤ s.2) ∧ (s.2 < (((List.length x):Nat):Int))) ∧
 (((Int.toNat s.2) < (List.length x)) ∧
 (((Int.toNat s.2) < (List.length x)) ∧
 ((fis_pre (List.getD x (Int.toNat s.2) ([],([],((0:Int),(0:Int)))))) ∧
 letP (fis (List.getD x (Int.toNat s.2) ([],([],((0:Int),(0:Int)))))) fun y =>
 (¬ ((!y) = true) →
 (Term (rightR_l2_step x) (rightR_l2_pre x) (s.1,(s.2,((List.getD x (Int.toNat s.2) ([],([],((0:Int),(0:Int))))).1,((((List.length (List.getD x (Int.toNat s.2) ([],([],((0:Int),(0:Int))))).1):Nat):Int),(0:Int))))))))))))
noncomputable def rightR_l0_t (x : (List ((List Int) × ((List I6) × I2)))) (s : ((List (Int × Bool)) × Int)) : Tr (((List (Int × Bool)) × Int) ⊕ (Unit ⊕ Unit)) true :=
 (.i10 (s.2 < (nL x))
 (.oR s.2 (nL x)
 (.od ((tN s.2) < (List.length x))
 (.od ((tN s.2) < (List.length x))
 (.fn fis_S (gT x s.2 ([],([],zz2))) fun y =>
 (.b01 (!y)
 (.ret (.inr (Sum.inl ())))
 (LoopD.lp (rightR_l2 x) (rightR_l2_t x) (s.1,(s.2,((gT x s.2 ([],([],zz2))).1,((nL (gT x s.2 ([],([],zz2))).1),z0)))) fun r =>
 (.s00 r (fun a =>
 (.ret (.inr (Sum.inl ())))) (fun b =>
 (.ret (.inl (b.1,(w1 b.2))))))))))))
 (.ret (.inr (Sum.inr (())))))
noncomputable def rightR (x : (List ((List Int) × ((List I6) × I2)))) : Bool :=
 (letV (run (rightR_l0_step x) ([],(0:Int))) fun r =>
 (Sum.elim (fun a =>
 false) (fun b =>
 true) r))
noncomputable def rightR_pre (x : (List ((List Int) × ((List I6) × I2)))) : Prop :=
 (Term (rightR_l0_step x) (rightR_l0_pre x) ([],(0:Int)))
noncomputable def rightR_t (x : (List ((List Int) × ((List I6) × I2)))) : Tr Bool true :=
 (LoopD.lp (rightR_l0 x) (rightR_l0_t x) ([],z0) fun r =>
 (.s00 r (fun a =>
 (.ret false)) (fun b =>
 (.ret true))))
noncomputable abbrev rightR_S : FnS := ⟨(.one (Ty.sl (Ty.prod (Ty.sl yi) (Ty.prod (Ty.sl yy6) yy2)))),(.one Ty.bool),rightR_pre,rightR⟩
theorem rightR_ok : SpecOk Try.prog 17 (fnSpec rightR_S) := SpecOk.tr rightR_S rightR_t (fn := Try.f17) tt_ok sp_numbersM_ok mixed (by kernel_rfl) (ItsOk.nil _ _) (fun x => (LpsOk.tr tt_ok (SpecsOk.ctxI sp_numbersM_ok (ItsOk.nil _ _)) mixed 0 (rightR_l0 x) (rightR_l0_t x) (LpsOk.tr tt_ok (SpecsOk.ctxI sp_numbersM_ok (ItsOk.nil _ _)) mixed 2 (rightR_l2 x) (rightR_l2_t x) LpsOk.nil (by kernel_rfl) fun g s Q => (by kernel_rfl)) (by kernel_rfl) fun g s Q => (by kernel_rfl))) (fun x => (by kernel_rfl)) fun x Q => (by kernel_rfl)
def sp_rightR : List (Nat × Ev.Spec) := (17,fnSpec rightR_S) :: sp_numbersM
theorem sp_rightR_ok : SpecsOk Try.prog sp_rightR := SpecsOk.add (fn := Try.f17) (by kernel_rfl) rightR_ok sp_numbersM_ok
noncomputable def sizeM (x : (((List Int) × ((List I6) × I2)) × Int)) : I2 :=
 ((w64 (x.1.2.2.1 + (w64 ((2:Int) * x.2)))),(w64 (x.1.2.2.2 + (w64 ((2:Int) * x.2)))))
noncomputable def sizeM_pre (_ : (((List Int) × ((List I6) × I2)) × Int)) : Prop := True
noncomputable def sizeM_t (x : (((List Int) × ((List I6) × I2)) × Int)) : Tr I2 false :=
 (.ret ((w64 (x.1.2.2.1 + (w64 ((2:Int) * x.2)))),(w64 (x.1.2.2.2 + (w64 ((2:Int) * x.2))))))
noncomputable abbrev sizeM_S : FnS := ⟨(.agg (Ty.prod (Ty.prod (Ty.sl yi) (Ty.prod (Ty.sl yy6) yy2)) yi)),(.agg yy2),sizeM_pre,sizeM⟩
theorem sizeM_ok : SpecOk Try.prog 18 (fnSpec sizeM_S) := SpecOk.tr sizeM_S sizeM_t (fn := Try.f18) tt_ok sp_rightR_ok mixed (by kernel_rfl) (ItsOk.nil _ _) (fun x => LpsOk.nil) (fun x => (by kernel_rfl)) fun x Q => (by kernel_rfl)
def sp_sizeM : List (Nat × Ev.Spec) := (18,fnSpec sizeM_S) :: sp_rightR
theorem sp_sizeM_ok : SpecsOk Try.prog sp_sizeM := SpecsOk.add (fn := Try.f18) (by kernel_rfl) sizeM_ok sp_rightR_ok
noncomputable def ownM (x : (((List Int) × ((List I6) × I2)) × Int)) : ((List Int) × ((List I6) × I2)) :=
 (letV (cloneI x.1.1) fun y =>
 (letV (cloneT x.1.2.1) fun y_1 =>
 (y,(y_1,x.1.2.2))))
noncomputable def ownM_pre (x : (((List Int) × ((List I6) × I2)) × Int)) : Prop :=
 ((cloneI_pre x.1.1) ∧
 letP (cloneI x.1.1) fun y =>
 (cloneT_pre x.1.2.1))
noncomputable def ownM_t (x : (((List Int) × ((List I6) × I2)) × Int)) : Tr ((List Int) × ((List I6) × I2)) true :=
 (.fn cloneI_S x.1.1 fun y =>
 (.fn cloneT_S x.1.2.1 fun y_1 =>
 (.ret (y,(y_1,x.1.2.2)))))
noncomputable abbrev ownM_S : FnS := ⟨(.agg (Ty.prod (Ty.prod (Ty.sl yi) (Ty.prod (Ty.sl yy6) yy2)) yi)),(.agg (Ty.prod (Ty.sl yi) (Ty.prod (Ty.sl yy6) yy2))),ownM_pre,ownM⟩
theorem ownM_ok : SpecOk Try.prog 20 (fnSpec ownM_S) := SpecOk.tr ownM_S ownM_t (fn := Try.f20) tt_ok sp_sizeM_ok mixed (by kernel_rfl) (ItsOk.nil _ _) (fun x => LpsOk.nil) (fun x => (by kernel_rfl)) fun x Q => (by kernel_rfl)
def sp_ownM : List (Nat × Ev.Spec) := (20,fnSpec ownM_S) :: sp_sizeM
theorem sp_ownM_ok : SpecsOk Try.prog sp_ownM := SpecsOk.add (fn := Try.f20) (by kernel_rfl) ownM_ok sp_sizeM_ok
end Go.Proofs.Ytbjfokijjefoeaa
