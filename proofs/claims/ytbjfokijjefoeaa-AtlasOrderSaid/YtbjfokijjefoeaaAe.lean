/- Models of functions of layer 18: all triangles. -/
import Derived.Test.YtbjfokijjefoeaaAc
import Derived.Test.YtbjfokijjefoeaaAd
namespace Go.Proofs.Ytbjfokijjefoeaa
open Go Go.Ev Go.Proofs
set_option linter.unusedVariables false
def sp_all1 : List (Nat × Ev.Spec) := (27,fnSpec repeatM_S) :: sp_isM
theorem sp_all1_ok : SpecsOk Try.prog sp_all1 := SpecsOk.add (fn := Try.f27) (by kernel_rfl) repeatM_ok sp_isM_ok
def sp_all2 : List (Nat × Ev.Spec) := (38,fnSpec indexI_S) :: sp_all1
theorem sp_all2_ok : SpecsOk Try.prog sp_all2 := SpecsOk.add (fn := Try.f38) (by kernel_rfl) indexI_ok sp_all1_ok
noncomputable def allM_l0 (x : (Int × (Int × (Int × ((List ((List Int) × ((List I6) × I2))) × (List (Int × I3))))))) : LoopD := ⟨[],⟨pvs 64 0 [(1,.v (.one (.ptr 0 0))),(5,.v (.one (.full 3))),(6,.v (.one (.full 4))),(15,.v (.one (.full 1))),(16,.v (.one (.i .i64))),(17,.v (.one (.i .i64)))],[.cells [.i .i64,.i .i64,.i .i64,.full 1,.full 2] 26,.row (Ty.prod (Ty.sl yi) (Ty.prod (Ty.sl yy6) yy2)) 0,.row (Ty.prod yi yy3) 0,.row yy6 2,.row yi 2],0,none,[],[0,2,3,4,5,6],[7,8,1],[(.l yy6),(.l yi),.i],[.i (((List.length x.2.2.2.1):Nat):Int),.i x.1,.i x.2.1,.i x.2.2.1,.l (Ty.prod (Ty.sl yi) (Ty.prod (Ty.sl yy6) yy2)) x.2.2.2.1,.l (Ty.prod yi yy3) x.2.2.2.2]⟩,[⟨.ret,.ret,⟨pvs 64 0 [(2,.v (.one (.raw))),(3,.v (.one (.raw))),(4,.v (.one (.i .i64)))],[],0,none,[],[0,1],[2],[.i],[.v (.slice none 0 0),.v (.slice none 0 0)]⟩⟩,⟨(.exit 0),.normal,⟨pvs 64 0 [(5,.v (.one (.full 0))),(6,.v (.one (.full 1)))],[.row yy6 2,.row yi 2],0,none,[],[],[0,1],[(.l yy6),(.l yi)],[]⟩⟩]⟩
noncomputable def allM_l0_step (x : (Int × (Int × (Int × ((List ((List Int) × ((List I6) × I2))) × (List (Int × I3))))))) (s : ((List I6) × ((List Int) × Int))) : ((List I6) × ((List Int) × Int)) ⊕ (Int ⊕ ((List I6) × (List Int))) :=
 (if (s.2.2 < (((List.length x.2.2.2.1):Nat):Int)) then
 (letV (fmove ((List.getD x.2.2.2.1 (Int.toNat s.2.2) ([],([],((0:Int),(0:Int))))),((w64 ((16:Int) * (w64 ((List.getD x.2.2.2.2 (Int.toNat s.2.2) ((0:Int),((0:Int),((0:Int),(0:Int))))).1 + x.2.2.1)))),(w64 ((16:Int) * (w64 ((List.getD x.2.2.2.2 (Int.toNat s.2.2) ((0:Int),((0:Int),((0:Int),(0:Int))))).2.1 + x.2.2.1))))))) fun y =>
 (if ((y.2 != (0:Int)) = true) then
 (Sum.inr (Sum.inl y.2)) else
 (letV (repeatM ([s.2.2],(((List.length y.1):Nat):Int))) fun y_1 =>
 (Sum.inl ((s.1 ++ y.1),((s.2.1 ++ y_1),(w64 (s.2.2 + (1:Int))))))))) else
 (Sum.inr (Sum.inr ((s.1,s.2.1)))))
noncomputable def allM_l0_pre (x : (Int × (Int × (Int × ((List ((List Int) × ((List I6) × I2))) × (List (Int × I3))))))) (s : ((List I6) × ((List Int) × Int))) : Prop :=
 ((s.2.2 < (((List.length x.2.2.2.1):Nat):Int)) →
 ((((0:Int) ≤ s.2.2) ∧ (s.2.2 < (((List.length x.2.2.2.1):Nat):Int))) ∧
 (((Int.toNat s.2.2) < (List.length x.2.2.2.1)) ∧
 (((Int.toNat s.2.2) < (List.length x.2.2.2.1)) ∧
 ((((0:Int) ≤ s.2.2) ∧ (s.2.2 < (((List.length x.2.2.2.2):Nat):Int))) ∧
 (((Int.toNat s.2.2) < (List.length x.2.2.2.2)) ∧
 (((Int.toNat s.2.2) < (List.length x.2.2.2.2)) ∧
 (((Int.toNat s.2.2) < (List.length x.2.2.2.2)) ∧
 ((((0:Int) ≤ s.2.2) ∧ (s.2.2 < (((List.length x.2.2.2.2):Nat):Int))) ∧
 (((Int.toNat s.2.2) < (List.length x.2.2.2.2)) ∧
 (((Int.toNat s.2.2) < (List.length x.2.2.2.2)) ∧
 (((Int.toNat s.2.2) < (List.length x.2.2.2.2)) ∧
 ((fmove_pre ((List.getD x.2.2.2.1 (Int.toNat s.2.2) ([],([],((0:Int),(0:Int))))),((w64 ((16:Int) * (w64 ((List.getD x.2.2.2.2 (Int.toNat s.2.2) ((0:Int),((0:Int),((0:Int),(0:Int))))).1 + x.2.2.1)))),(w64 ((16:Int) * (w64 ((List.getD x.2.2.2.2 (Int.toNat s.2.2) ((0:Int),((0:Int),((0:Int),(0:Int))))).2.1 + x.2.2.1))))))) ∧
 letP (fmove ((List.getD x.2.2.2.1 (Int.toNat s.2.2) ([],([],((0:Int),(0:Int))))),((w64 ((16:Int) * (w64 ((List.getD x.2.2.2.2 (Int.toNat s.2.2) ((0:Int),((0:Int),((0:Int),(0:Int))))).1 + x.2.2.1)))),(w64 ((16:Int) * (w64 ((List.getD x.2.2.2.2 (Int.toNat s.2.2) ((0:Int),((0:Int),((0:Int),(0:Int))))).2.1 + x.2.2.1))))))) fun y =>
 (¬ ((y.2 != (0:Int)) = true) →
 ((((List.length s.1) + (List.length y.1)) < 1099511627776) ∧
 ((repeatM_pre ([s.2.2],(((List.length y.1):Nat):Int))) ∧
 letP (repeatM ([s.2.2],(((List.length y.1):Nat):Int))) fun y_1 =>
 (((List.length s.2.1) + (List.length y_1)) < 1099511627776)))))))))))))))))
noncomputable def allM_l0_t (x : (Int × (Int × (Int × ((List ((List Int) × ((List I6) × I2))) × (List (Int × I3))))))) (s : ((List I6) × ((List Int) × Int))) : Tr (((List I6) × ((List Int) × Int)) ⊕ (Int ⊕ ((List I6) × (List Int)))) true :=
 (.i10 (s.2.2 < (nL x.2.2.2.1))
 (.oR s.2.2 (nL x.2.2.2.1)
 (.od ((tN s.2.2) < (List.length x.2.2.2.1))
 (.od ((tN s.2.2) < (List.length x.2.2.2.1))
 (.oR s.2.2 (nL x.2.2.2.2)
 (.od ((tN s.2.2) < (List.length x.2.2.2.2))
 (.od ((tN s.2.2) < (List.length x.2.2.2.2))
 (.od ((tN s.2.2) < (List.length x.2.2.2.2))
 (.oR s.2.2 (nL x.2.2.2.2)
 (.od ((tN s.2.2) < (List.length x.2.2.2.2))
 (.od ((tN s.2.2) < (List.length x.2.2.2.2))
 (.od ((tN s.2.2) < (List.length x.2.2.2.2))
 (.fn fmove_S ((gT x.2.2.2.1 s.2.2 ([],([],zz2))),((w64 ((16:Int) * (w64 ((gT x.2.2.2.2 s.2.2 (z0,zz3)).1 + x.2.2.1)))),(w64 ((16:Int) * (w64 ((gT x.2.2.2.2 s.2.2 (z0,zz3)).2.1 + x.2.2.1)))))) fun y =>
 (.b01 (y.2 != z0)
 (.ret (.inr (Sum.inl y.2)))
 (.od (((List.length s.1) + (List.length y.1)) < 1099511627776)
 (.fn repeatM_S ([s.2.2],(nL y.1)) fun y_1 =>
 (.od (((List.length s.2.1) + (List.length y_1)) < 1099511627776)
 (.ret (.inl ((s.1 ++ y.1),((s.2.1 ++ y_1),(w1 s.2.2)))))))))))))))))))))
 (.ret (.inr (Sum.inr ((s.1,s.2.1))))))
noncomputable def allM (x : (Int × (Int × (Int × ((List ((List Int) × ((List I6) × I2))) × (List (Int × I3))))))) : ((List I6) × ((List Int) × Int)) :=
 (letV (isM x) fun y =>
 (if ((!y) = true) then
 ([],([],(1:Int))) else
 (letV (run (allM_l0_step x) ([],([],(0:Int)))) fun r =>
 (Sum.elim (fun a =>
 ([],([],a))) (fun b =>
 (b.1,(b.2,(0:Int)))) r))))
noncomputable def allM_pre (x : (Int × (Int × (Int × ((List ((List Int) × ((List I6) × I2))) × (List (Int × I3))))))) : Prop :=
 ((isM_pre x) ∧
 letP (isM x) fun y =>
 (¬ ((!y) = true) →
 (Term (allM_l0_step x) (allM_l0_pre x) ([],([],(0:Int))))))
noncomputable def allM_t (x : (Int × (Int × (Int × ((List ((List Int) × ((List I6) × I2))) × (List (Int × I3))))))) : Tr ((List I6) × ((List Int) × Int)) true :=
 (.fn isM_S x fun y =>
 (.b01 (!y)
 (.ret ([],([],z1)))
 (LoopD.lp (allM_l0 x) (allM_l0_t x) ([],([],z0)) fun r =>
 (.s00 r (fun a =>
 (.ret ([],([],a)))) (fun b =>
 (.ret (b.1,(b.2,z0))))))))
noncomputable abbrev allM_S : FnS := ⟨(.agg (Ty.prod yi (Ty.prod yi (Ty.prod yi (Ty.prod (Ty.sl (Ty.prod (Ty.sl yi) (Ty.prod (Ty.sl yy6) yy2))) (Ty.sl (Ty.prod yi yy3))))))),(.pair (.one (Ty.sl yy6)) (.pair (.one (Ty.sl yi)) (.one yi))),allM_pre,allM⟩
theorem allM_ok : SpecOk Try.prog 12 (fnSpec allM_S) := SpecOk.tr allM_S allM_t (fn := Try.f12) tt_ok sp_all2_ok mixed (by kernel_rfl) (ItsOk.nil _ _) (fun x => (LpsOk.tr tt_ok (SpecsOk.ctxI sp_all2_ok (ItsOk.nil _ _)) mixed 0 (allM_l0 x) (allM_l0_t x) LpsOk.nil (by kernel_rfl) fun g s Q => (by kernel_rfl))) (fun x => (by kernel_rfl)) fun x Q => (by kernel_rfl)
def sp_allM : List (Nat × Ev.Spec) := (12,fnSpec allM_S) :: sp_all2
theorem sp_allM_ok : SpecsOk Try.prog sp_allM := SpecsOk.add (fn := Try.f12) (by kernel_rfl) allM_ok sp_all2_ok
noncomputable def findM_l0 (x : ((Int × (Int × (Int × ((List ((List Int) × ((List I6) × I2))) × (List (Int × I3)))))) × Int)) : LoopD := ⟨[],⟨pvs 48 0 [(1,.v (.one (.i .i64))),(4,.v (.one (.ptr 0 0))),(6,.v (.one (.full 1))),(9,.v (.one (.i .i64))),(23,.v (.one (.full 2))),(24,.v (.one (.i .i64))),(25,.v (.one (.i .i64)))],[.cells [.i .i64,.i .i64,.i .i64,.i .i64,.i .i64,.i .i64] 44,.row yy6 2,.row (Ty.prod (Ty.sl yi) (Ty.prod (Ty.sl yy6) yy2)) 0],0,none,[],[0,2,4,5,6,7,8,9,11],[10,1,3],[(.l yy6),.i,.i],[.i x.2,.i (((List.length x.1.2.2.2.1):Nat):Int),.i (0:Int),.i (0:Int),.i (0:Int),.i (0:Int),.i (0:Int),.i (0:Int),.l (Ty.prod (Ty.sl yi) (Ty.prod (Ty.sl yy6) yy2)) x.1.2.2.2.1]⟩,[⟨.ret,.ret,⟨pvs 48 0 [(4,.v (.one (.ptr 0 0))),(5,.v (.one (.b)))],[.cells [.i .i64,.i .i64,.i .i64,.i .i64,.i .i64,.i .i64] 44],0,none,[],[0],[1,2,3,4,5,6],[.i,.i,.i,.i,.i,.i],[.b true]⟩⟩,⟨(.exit 0),.normal,⟨pvs 48 0 [(4,.v (.one (.ptr 0 0)))],[.cells [.i .i64,.i .i64,.i .i64,.i .i64,.i .i64,.i .i64] 44],0,none,[],[0,1,2,3,4,5],[],[],[.i (0:Int),.i (0:Int),.i (0:Int),.i (0:Int),.i (0:Int),.i (0:Int)]⟩⟩]⟩
noncomputable def findM_l0_step (x : ((Int × (Int × (Int × ((List ((List Int) × ((List I6) × I2))) × (List (Int × I3)))))) × Int)) (s : ((List I6) × I2)) : ((List I6) × I2) ⊕ ((Int × (Int × (Int × I3))) ⊕ Unit) :=
 (if (s.2.2 < (((List.length x.1.2.2.2.1):Nat):Int)) then
 (letV (indexI ((List.getD x.1.2.2.2.1 (Int.toNat s.2.2) ([],([],((0:Int),(0:Int))))).1,x.2)) fun y =>
 (if (y ≥ (0:Int)) then
 (Sum.inr (Sum.inl ((List.getD s.1 (Int.toNat (w64 (s.2.1 + y))) (((0:Int),(0:Int)),(((0:Int),(0:Int)),((0:Int),(0:Int))))).1.1,((List.getD s.1 (Int.toNat (w64 (s.2.1 + y))) (((0:Int),(0:Int)),(((0:Int),(0:Int)),((0:Int),(0:Int))))).1.2,((List.getD s.1 (Int.toNat (w64 (s.2.1 + y))) (((0:Int),(0:Int)),(((0:Int),(0:Int)),((0:Int),(0:Int))))).2.1.1,((List.getD s.1 (Int.toNat (w64 (s.2.1 + y))) (((0:Int),(0:Int)),(((0:Int),(0:Int)),((0:Int),(0:Int))))).2.1.2,((List.getD s.1 (Int.toNat (w64 (s.2.1 + y))) (((0:Int),(0:Int)),(((0:Int),(0:Int)),((0:Int),(0:Int))))).2.2.1,(List.getD s.1 (Int.toNat (w64 (s.2.1 + y))) (((0:Int),(0:Int)),(((0:Int),(0:Int)),((0:Int),(0:Int))))).2.2.2))))))) else
 (Sum.inl (s.1,((w64 (s.2.1 + (((List.length (List.getD x.1.2.2.2.1 (Int.toNat s.2.2) ([],([],((0:Int),(0:Int))))).1):Nat):Int))),(w64 (s.2.2 + (1:Int)))))))) else
 (Sum.inr (Sum.inr (()))))
noncomputable def findM_l0_pre (x : ((Int × (Int × (Int × ((List ((List Int) × ((List I6) × I2))) × (List (Int × I3)))))) × Int)) (s : ((List I6) × I2)) : Prop :=
 ((s.2.2 < (((List.length x.1.2.2.2.1):Nat):Int)) →
 ((((0:Int) ≤ s.2.2) ∧ (s.2.2 < (((List.length x.1.2.2.2.1):Nat):Int))) ∧
 (((Int.toNat s.2.2) < (List.length x.1.2.2.2.1)) ∧
 (((Int.toNat s.2.2) < (List.length x.1.2.2.2.1)) ∧
 ((indexI_pre ((List.getD x.1.2.2.2.1 (Int.toNat s.2.2) ([],([],((0:Int),(0:Int))))).1,x.2)) ∧
 letP (indexI ((List.getD x.1.2.2.2.1 (Int.toNat s.2.2) ([],([],((0:Int),(0:Int))))).1,x.2)) fun y =>
 ((y ≥ (0:Int)) →
 ((((0:Int) ≤ (w64 (s.2.1 + y))) ∧ ((w64 (s.2.1 + y)) < (((List.length s.1):Nat):Int))) ∧
 (((Int.toNat (w64 (s.2.1 + y))) < (List.length s.1)) ∧
 ((Int.toNat (w64 (s.2.1 + y))) < (List.length s.1))))))))))
noncomputable def findM_l0_t (x : ((Int × (Int × (Int × ((List ((List Int) × ((List I6) × I2))) × (List (Int × I3)))))) × Int)) (s : ((List I6) × I2)) : Tr (((List I6) × I2) ⊕ ((Int × (Int × (Int × I3))) ⊕ Unit)) true :=
 (.i10 (s.2.2 < (nL x.1.2.2.2.1))
 (.oR s.2.2 (nL x.1.2.2.2.1)
 (.od ((tN s.2.2) < (List.length x.1.2.2.2.1))
 (.od ((tN s.2.2) < (List.length x.1.2.2.2.1))
 (.fn indexI_S ((gT x.1.2.2.2.1 s.2.2 ([],([],zz2))).1,x.2) fun y =>
 (.i10 (y ≥ z0)
 (.oR (w64 (s.2.1 + y)) (nL s.1)
 (.od ((tN (w64 (s.2.1 + y))) < (List.length s.1))
 (.od ((tN (w64 (s.2.1 + y))) < (List.length s.1))
 (.ret (.inr (Sum.inl ((gT s.1 (w64 (s.2.1 + y)) zz6).1.1,((gT s.1 (w64 (s.2.1 + y)) zz6).1.2,((gT s.1 (w64 (s.2.1 + y)) zz6).2.1.1,((gT s.1 (w64 (s.2.1 + y)) zz6).2.1.2,((gT s.1 (w64 (s.2.1 + y)) zz6).2.2.1,(gT s.1 (w64 (s.2.1 + y)) zz6).2.2.2)))))))))))
 (.ret (.inl (s.1,((w64 (s.2.1 + (nL (gT x.1.2.2.2.1 s.2.2 ([],([],zz2))).1))),(w1 s.2.2))))))))))
 (.ret (.inr (Sum.inr (())))))
noncomputable def findM (x : ((Int × (Int × (Int × ((List ((List Int) × ((List I6) × I2))) × (List (Int × I3)))))) × Int)) : (I6 × Bool) :=
 (letV (allM x.1) fun y =>
 (if ((y.2.2 != (0:Int)) = true) then
 ((((0:Int),(0:Int)),(((0:Int),(0:Int)),((0:Int),(0:Int)))),false) else
 (letV (run (findM_l0_step x) (y.1,((0:Int),(0:Int)))) fun r =>
 (Sum.elim (fun a =>
 (((a.1,a.2.1),((a.2.2.1,a.2.2.2.1),a.2.2.2.2)),true)) (fun b =>
 ((((0:Int),(0:Int)),(((0:Int),(0:Int)),((0:Int),(0:Int)))),false)) r))))
noncomputable def findM_pre (x : ((Int × (Int × (Int × ((List ((List Int) × ((List I6) × I2))) × (List (Int × I3)))))) × Int)) : Prop :=
 ((allM_pre x.1) ∧
 letP (allM x.1) fun y =>
 (¬ ((y.2.2 != (0:Int)) = true) →
 (Term (findM_l0_step x) (findM_l0_pre x) (y.1,((0:Int),(0:Int))))))
noncomputable def findM_t (x : ((Int × (Int × (Int × ((List ((List Int) × ((List I6) × I2))) × (List (Int × I3)))))) × Int)) : Tr (I6 × Bool) true :=
 (.fn allM_S x.1 fun y =>
 (.b01 (y.2.2 != z0)
 (.ret (zz6,false))
 (LoopD.lp (findM_l0 x) (findM_l0_t x) (y.1,zz2) fun r =>
 (.s00 r (fun a =>
 (.ret (((a.1,a.2.1),((a.2.2.1,a.2.2.2.1),a.2.2.2.2)),true))) (fun b =>
 (.ret (zz6,false)))))))
noncomputable abbrev findM_S : FnS := ⟨(.pair (.agg (Ty.prod yi (Ty.prod yi (Ty.prod yi (Ty.prod (Ty.sl (Ty.prod (Ty.sl yi) (Ty.prod (Ty.sl yy6) yy2))) (Ty.sl (Ty.prod yi yy3))))))) (.one yi)),(.pair (.agg yy6) (.one Ty.bool)),findM_pre,findM⟩
theorem findM_ok : SpecOk Try.prog 22 (fnSpec findM_S) := SpecOk.tr findM_S findM_t (fn := Try.f22) tt_ok sp_allM_ok mixed (by kernel_rfl) (ItsOk.nil _ _) (fun x => (LpsOk.tr tt_ok (SpecsOk.ctxI sp_allM_ok (ItsOk.nil _ _)) mixed 0 (findM_l0 x) (findM_l0_t x) LpsOk.nil (by kernel_rfl) fun g s Q => (by kernel_rfl))) (fun x => (by kernel_rfl)) fun x Q => (by kernel_rfl)
def sp_findM : List (Nat × Ev.Spec) := (22,fnSpec findM_S) :: sp_allM
theorem sp_findM_ok : SpecsOk Try.prog sp_findM := SpecsOk.add (fn := Try.f22) (by kernel_rfl) findM_ok sp_allM_ok
noncomputable def r1same_l0 (x : ((List Int) × (List Int))) : LoopD := ⟨[],⟨pvs 26 0 [(0,.v (.one (.full 0))),(1,.v (.one (.full 1))),(5,.v (.one (.i .i64)))],[.row yi 0,.row yi 0],0,none,[],[1,2],[0],[.i],[.l yi x.1,.l yi x.2]⟩,[⟨.ret,.ret,⟨pvs 26 0 [(4,.v (.one (.b)))],[],0,none,[],[0],[],[],[.b false]⟩⟩,⟨(.exit 0),.normal,⟨pvs 26 0 [],[],0,none,[],[],[],[],[]⟩⟩]⟩
noncomputable def r1same_l0_step (x : ((List Int) × (List Int))) (s:Int) : Int ⊕ (Unit ⊕ Unit) :=
 (if (s < (((List.length x.1):Nat):Int)) then
 (if (((List.getD x.1 (Int.toNat s) (0:Int)) != (List.getD x.2 (Int.toNat s) (0:Int))) = true) then
 (Sum.inr (Sum.inl ())) else
 (Sum.inl (w64 (s + (1:Int))))) else
 (Sum.inr (Sum.inr (()))))
noncomputable def r1same_l0_pre (x : ((List Int) × (List Int))) (s:Int) : Prop :=
 ((s < (((List.length x.1):Nat):Int)) →
 ((((0:Int) ≤ s) ∧ (s < (((List.length x.1):Nat):Int))) ∧
 (((Int.toNat s) < (List.length x.1)) ∧
 (((Int.toNat s) < (List.length x.1)) ∧
 ((((0:Int) ≤ s) ∧ (s < (((List.length x.2):Nat):Int))) ∧
 (((Int.toNat s) < (List.length x.2)) ∧
 ((Int.toNat s) < (List.length x.2))))))))
noncomputable def r1same_l0_t (x : ((List Int) × (List Int))) (s:Int) : Tr (Int ⊕ (Unit ⊕ Unit)) true :=
 (.i10 (s < (nL x.1))
 (.oR s (nL x.1)
 (.od ((tN s) < (List.length x.1))
 (.od ((tN s) < (List.length x.1))
 (.oR s (nL x.2)
 (.od ((tN s) < (List.length x.2))
 (.od ((tN s) < (List.length x.2))
 (.b00 ((gI x.1 s) != (gI x.2 s))
 (.ret (.inr (Sum.inl ())))
 (.ret (.inl (w1 s))))))))))
 (.ret (.inr (Sum.inr (())))))
noncomputable def r1same (x : ((List Int) × (List Int))) : Bool :=
 (if (((((List.length x.1):Nat):Int) != (((List.length x.2):Nat):Int)) = true) then
 false else
 (letV (run (r1same_l0_step x) (0:Int)) fun r =>
 (Sum.elim (fun a =>
 false) (fun b =>
 true) r)))
noncomputable def r1same_pre (x : ((List Int) × (List Int))) : Prop :=
 (¬ (((((List.length x.1):Nat):Int) != (((List.length x.2):Nat):Int)) = true) →
 (Term (r1same_l0_step x) (r1same_l0_pre x) (0:Int)))
noncomputable def r1same_t (x : ((List Int) × (List Int))) : Tr Bool true :=
 (.b01 ((nL x.1) != (nL x.2))
 (.ret false)
 (LoopD.lp (r1same_l0 x) (r1same_l0_t x) z0 fun r =>
 (.s00 r (fun a =>
 (.ret false)) (fun b =>
 (.ret true)))))
noncomputable abbrev r1same_S : FnS := ⟨(.pair (.one (Ty.sl yi)) (.one (Ty.sl yi))),(.one Ty.bool),r1same_pre,r1same⟩
theorem r1same_ok : SpecOk Try.prog 23 (fnSpec r1same_S) := SpecOk.tr r1same_S r1same_t (fn := Try.f23) tt_ok sp_findM_ok mixed (by kernel_rfl) (ItsOk.nil _ _) (fun x => (LpsOk.tr tt_ok (SpecsOk.ctxI sp_findM_ok (ItsOk.nil _ _)) mixed 0 (r1same_l0 x) (r1same_l0_t x) LpsOk.nil (by kernel_rfl) fun g s Q => (by kernel_rfl))) (fun x => (by kernel_rfl)) fun x Q => (by kernel_rfl)
def sp_r1same : List (Nat × Ev.Spec) := (23,fnSpec r1same_S) :: sp_findM
theorem sp_r1same_ok : SpecsOk Try.prog sp_r1same := SpecsOk.add (fn := Try.f23) (by kernel_rfl) r1same_ok sp_findM_ok
noncomputable def patchL (x : I3) : ((List Int) × ((List I6) × I2)) :=
 ([x.1],([(((0:Int),(0:Int)),(((w64 ((w64 ((16:Int) * x.2.1)) - (1:Int))),(0:Int)),((0:Int),(w64 ((w64 ((16:Int) * x.2.2)) - (1:Int))))))],x.2))
noncomputable def patchL_pre (_ : I3) : Prop := True
noncomputable def patchL_t (x : I3) : Tr ((List Int) × ((List I6) × I2)) false :=
 (.ret ([x.1],([(zz2,(((wm (w64 ((16:Int) * x.2.1))),z0),(z0,(wm (w64 ((16:Int) * x.2.2))))))],x.2)))
noncomputable abbrev patchL_S : FnS := ⟨(.pair (.one yi) (.pair (.one yi) (.one yi))),(.agg (Ty.prod (Ty.sl yi) (Ty.prod (Ty.sl yy6) yy2))),patchL_pre,patchL⟩
theorem patchL_ok : SpecOk Try.prog 21 (fnSpec patchL_S) := SpecOk.tr patchL_S patchL_t (fn := Try.f21) tt_ok sp_r1same_ok mixed (by kernel_rfl) (ItsOk.nil _ _) (fun x => LpsOk.nil) (fun x => (by kernel_rfl)) fun x Q => (by kernel_rfl)
def sp_patchL : List (Nat × Ev.Spec) := (21,fnSpec patchL_S) :: sp_r1same
theorem sp_patchL_ok : SpecsOk Try.prog sp_patchL := SpecsOk.add (fn := Try.f21) (by kernel_rfl) patchL_ok sp_r1same_ok
end Go.Proofs.Ytbjfokijjefoeaa
