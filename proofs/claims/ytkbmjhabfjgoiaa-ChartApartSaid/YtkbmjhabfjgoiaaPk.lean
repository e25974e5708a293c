/- Model of law 15's ChartApart. -/
import Derived.Test.YtkbmjhabfjgoiaaCc
import Derived.Test.YtkbmjhabfjgoiaaPj
noncomputable section
set_option linter.unusedSectionVars false
set_option linter.unusedVariables false
set_option linter.unusedSimpArgs false
namespace Go.Proofs.Ytkbmjhabfjgoiaa
open Go Go.Ev Go.Proofs
def chartApart_l4 (x : ((List I3) × ((List I2) × ((List I3) × (List I9))))) : LoopD := ⟨[],⟨pvs 105 0 [(1,.v (.one (.ptr 0 0))),(3,.v (.one (.full 5))),(5,.v (.one (.i .i64))),(6,.v (.one (.i .i64))),(7,.v (.one (.ptr 6 0))),(9,.v (.one (.i .i64)))],[.cells [.full 1,.full 2,.full 3,.full 4] 26,.row yy3 0,.row yy2 0,.row yy3 0,.row yy9 0,.row (Ty.prod yi (Ty.prod yi (Ty.sl yi))) 2,.cells [.i .i64,.i .i64,.i .i64,.i .i64,.i .i64,.i .i64] 41],0,none,[],[3,4,5,6],[7,0,1,8,9,10,11,12,13,2],[(.l (Ty.prod yi (Ty.prod yi (Ty.sl yi)))),.i,.i,.i,.i,.i,.i,.i,.i,.i],[.l yy3 x.1,.l yy2 x.2.1,.l yy3 x.2.2.1,.l yy9 x.2.2.2]⟩,[⟨.ret,.ret,⟨pvs 105 0 [(2,.v (.one (.b)))],[],0,none,[],[0],[],[],[.b false]⟩⟩,⟨(.exit 4),.normal,⟨pvs 105 0 [(1,.v (.one (.ptr 0 0))),(3,.v (.one (.full 5))),(5,.v (.one (.i .i64))),(6,.v (.one (.i .i64)))],[.cells [.full 1,.full 2,.full 3,.full 4] 26,.row yy3 0,.row yy2 0,.row yy3 0,.row yy9 0,.row (Ty.prod yi (Ty.prod yi (Ty.sl yi))) 2],0,none,[],[2,3,4,5],[6,0,1],[(.l (Ty.prod yi (Ty.prod yi (Ty.sl yi)))),.i,.i],[.l yy3 x.1,.l yy2 x.2.1,.l yy3 x.2.2.1,.l yy9 x.2.2.2]⟩⟩]⟩
def chartApart_l4_step (x : ((List I3) × ((List I2) × ((List I3) × (List I9))))) (s : ((List (Int × (Int × (List Int)))) × (Int × (Int × (Int × (Int × (Int × (Int × I3)))))))) : ((List (Int × (Int × (List Int)))) × (Int × (Int × (Int × (Int × (Int × (Int × I3))))))) ⊕ (Unit ⊕ ((List (Int × (Int × (List Int)))) × I2)) :=
 (if (s.2.2.2.2.2.2.2.2.2 < s.2.2.1) then
 (letV (shadow (x,((List.getD (List.getD s.1 (Int.toNat s.2.1) ((0:Int),((0:Int),[]))).2.2 (Int.toNat s.2.2.2.2.2.2.2.2.2) (0:Int)),(List.getD s.1 (Int.toNat s.2.1) ((0:Int),((0:Int),[]))).1))) fun y =>
 (letV (moverlap (((s.2.2.2.1,s.2.2.2.2.1),((s.2.2.2.2.2.1,s.2.2.2.2.2.2.1),(s.2.2.2.2.2.2.2.1,s.2.2.2.2.2.2.2.2.1))),y.1)) fun y_1 =>
 (if ((y.2 != (0:Int)) = true) then
 (Sum.inr (Sum.inl ())) else
 (if ((y_1.2 != (0:Int)) = true) then
 (Sum.inr (Sum.inl ())) else
 (if (y_1.1 = true) then
 (Sum.inr (Sum.inl ())) else
 (Sum.inl (s.1,(s.2.1,(s.2.2.1,(s.2.2.2.1,(s.2.2.2.2.1,(s.2.2.2.2.2.1,(s.2.2.2.2.2.2.1,(s.2.2.2.2.2.2.2.1,(s.2.2.2.2.2.2.2.2.1,(w64 (s.2.2.2.2.2.2.2.2.2 + (1:Int)))))))))))))))))) else
 (Sum.inr (Sum.inr ((s.1,(s.2.1,s.2.2.1))))))
def chartApart_l4_pre (x : ((List I3) × ((List I2) × ((List I3) × (List I9))))) (s : ((List (Int × (Int × (List Int)))) × (Int × (Int × (Int × (Int × (Int × (Int × I3)))))))) : Prop :=
 ((s.2.2.2.2.2.2.2.2.2 < s.2.2.1) →
 ((((0:Int) ≤ s.2.1) ∧ (s.2.1 < (s.1.length:Int))) ∧
 (((Int.toNat s.2.1) < (List.length s.1)) ∧
 (((Int.toNat s.2.1) < (List.length s.1)) ∧
 (((Int.toNat s.2.1) < (List.length s.1)) ∧
 ((((0:Int) ≤ s.2.2.2.2.2.2.2.2.2) ∧ (s.2.2.2.2.2.2.2.2.2 < ((List.getD s.1 (Int.toNat s.2.1) ((0:Int),((0:Int),[]))).2.2.length:Int))) ∧
 (((Int.toNat s.2.2.2.2.2.2.2.2.2) < (List.length (List.getD s.1 (Int.toNat s.2.1) ((0:Int),((0:Int),[]))).2.2)) ∧
 (((Int.toNat s.2.2.2.2.2.2.2.2.2) < (List.length (List.getD s.1 (Int.toNat s.2.1) ((0:Int),((0:Int),[]))).2.2)) ∧
 ((((0:Int) ≤ s.2.1) ∧ (s.2.1 < (s.1.length:Int))) ∧
 (((Int.toNat s.2.1) < (List.length s.1)) ∧
 (((Int.toNat s.2.1) < (List.length s.1)) ∧
 (((Int.toNat s.2.1) < (List.length s.1)) ∧
 ((shadow_pre (x,((List.getD (List.getD s.1 (Int.toNat s.2.1) ((0:Int),((0:Int),[]))).2.2 (Int.toNat s.2.2.2.2.2.2.2.2.2) (0:Int)),(List.getD s.1 (Int.toNat s.2.1) ((0:Int),((0:Int),[]))).1))) ∧
 letP (shadow (x,((List.getD (List.getD s.1 (Int.toNat s.2.1) ((0:Int),((0:Int),[]))).2.2 (Int.toNat s.2.2.2.2.2.2.2.2.2) (0:Int)),(List.getD s.1 (Int.toNat s.2.1) ((0:Int),((0:Int),[]))).1))) fun y =>
 (moverlap_pre (((s.2.2.2.1,s.2.2.2.2.1),((s.2.2.2.2.2.1,s.2.2.2.2.2.2.1),(s.2.2.2.2.2.2.2.1,s.2.2.2.2.2.2.2.2.1))),y.1)))))))))))))))
def chartApart_l4_t (x : ((List I3) × ((List I2) × ((List I3) × (List I9))))) (s : ((List (Int × (Int × (List Int)))) × (Int × (Int × (Int × (Int × (Int × (Int × I3)))))))) : Tr (((List (Int × (Int × (List Int)))) × (Int × (Int × (Int × (Int × (Int × (Int × I3))))))) ⊕ (Unit ⊕ ((List (Int × (Int × (List Int)))) × I2))) true :=
 (.i10 (s.2.2.2.2.2.2.2.2.2 < s.2.2.1)
 (.oI3 s.2.1 s.1
 (.oI2 s.2.2.2.2.2.2.2.2.2 (gT s.1 s.2.1 (z0,(z0,[]))).2.2
 (.oI3 s.2.1 s.1
 (.fn shadow_S (x,((gI (gT s.1 s.2.1 (z0,(z0,[]))).2.2 s.2.2.2.2.2.2.2.2.2),(gT s.1 s.2.1 (z0,(z0,[]))).1)) fun y =>
 (.fn moverlap_S (((s.2.2.2.1,s.2.2.2.2.1),((s.2.2.2.2.2.1,s.2.2.2.2.2.2.1),(s.2.2.2.2.2.2.2.1,s.2.2.2.2.2.2.2.2.1))),y.1) fun y_1 =>
 (.b00 (y.2 != z0)
 (.ret (.inr (Sum.inl ())))
 (.b00 (y_1.2 != z0)
 (.ret (.inr (Sum.inl ())))
 (.b00 y_1.1
 (.ret (.inr (Sum.inl ())))
 (.ret (.inl (s.1,(s.2.1,(s.2.2.1,(s.2.2.2.1,(s.2.2.2.2.1,(s.2.2.2.2.2.1,(s.2.2.2.2.2.2.1,(s.2.2.2.2.2.2.2.1,(s.2.2.2.2.2.2.2.2.1,(w1 s.2.2.2.2.2.2.2.2.2))))))))))))))))))))
 (.ret (.inr (Sum.inr ((s.1,(s.2.1,s.2.2.1)))))))
def chartApart_l2 (x : ((List I3) × ((List I2) × ((List I3) × (List I9))))) : LoopD := ⟨[],⟨pvs 105 0 [(1,.v (.one (.ptr 0 0))),(3,.v (.one (.full 5))),(5,.v (.one (.i .i64))),(6,.v (.one (.i .i64)))],[.cells [.full 1,.full 2,.full 3,.full 4] 26,.row yy3 0,.row yy2 0,.row yy3 0,.row yy9 0,.row (Ty.prod yi (Ty.prod yi (Ty.sl yi))) 2],0,none,[],[2,3,4,5],[6,0,1],[(.l (Ty.prod yi (Ty.prod yi (Ty.sl yi)))),.i,.i],[.l yy3 x.1,.l yy2 x.2.1,.l yy3 x.2.2.1,.l yy9 x.2.2.2]⟩,[⟨.ret,.ret,⟨pvs 105 0 [(2,.v (.one (.b)))],[],0,none,[],[0],[],[],[.b false]⟩⟩,⟨(.exit 2),.normal,⟨pvs 105 0 [(1,.v (.one (.ptr 0 0))),(3,.v (.one (.full 5))),(5,.v (.one (.i .i64)))],[.cells [.full 1,.full 2,.full 3,.full 4] 26,.row yy3 0,.row yy2 0,.row yy3 0,.row yy9 0,.row (Ty.prod yi (Ty.prod yi (Ty.sl yi))) 2],0,none,[],[1,2,3,4],[5,0],[(.l (Ty.prod yi (Ty.prod yi (Ty.sl yi)))),.i],[.l yy3 x.1,.l yy2 x.2.1,.l yy3 x.2.2.1,.l yy9 x.2.2.2]⟩⟩]⟩
def chartApart_l2_step (x : ((List I3) × ((List I2) × ((List I3) × (List I9))))) (s : ((List (Int × (Int × (List Int)))) × I2)) : ((List (Int × (Int × (List Int)))) × I2) ⊕ (Unit ⊕ ((List (Int × (Int × (List Int)))) × Int)) :=
 (if (s.2.2 < ((List.getD s.1 (Int.toNat s.2.1) ((0:Int),((0:Int),[]))).2.2.length:Int)) then
 (letV (shadow (x,((List.getD (List.getD s.1 (Int.toNat s.2.1) ((0:Int),((0:Int),[]))).2.2 (Int.toNat s.2.2) (0:Int)),(List.getD s.1 (Int.toNat s.2.1) ((0:Int),((0:Int),[]))).1))) fun y =>
 (if ((y.2 != (0:Int)) = true) then
 (Sum.inr (Sum.inl ())) else
 (letV (mright y.1) fun y_1 =>
 (if ((!y_1) = true) then
 (Sum.inr (Sum.inl ())) else
 (letV (run (chartApart_l4_step x) (s.1,(s.2.1,(s.2.2,(y.1.1.1,(y.1.1.2,(y.1.2.1.1,(y.1.2.1.2,(y.1.2.2.1,(y.1.2.2.2,(0:Int))))))))))) fun r =>
 (Sum.elim (fun a =>
 (Sum.inr (Sum.inl ()))) (fun b =>
 (Sum.inl (b.1,(b.2.1,(w64 (b.2.2 + (1:Int))))))) r)))))) else
 (Sum.inr (Sum.inr ((s.1,s.2.1)))))
def chartApart_l2_pre (x : ((List I3) × ((List I2) × ((List I3) × (List I9))))) (s : ((List (Int × (Int × (List Int)))) × I2)) : Prop :=
 ((((0:Int) ≤ s.2.1) ∧ (s.2.1 < (s.1.length:Int))) ∧
 (((Int.toNat s.2.1) < (List.length s.1)) ∧
 (((Int.toNat s.2.1) < (List.length s.1)) ∧
 (((Int.toNat s.2.1) < (List.length s.1)) ∧
 ((s.2.2 < ((List.getD s.1 (Int.toNat s.2.1) ((0:Int),((0:Int),[]))).2.2.length:Int)) →
 ((((0:Int) ≤ s.2.1) ∧ (s.2.1 < (s.1.length:Int))) ∧
 (((Int.toNat s.2.1) < (List.length s.1)) ∧
 (((Int.toNat s.2.1) < (List.length s.1)) ∧
 (((Int.toNat s.2.1) < (List.length s.1)) ∧
 ((((0:Int) ≤ s.2.2) ∧ (s.2.2 < ((List.getD s.1 (Int.toNat s.2.1) ((0:Int),((0:Int),[]))).2.2.length:Int))) ∧
 (((Int.toNat s.2.2) < (List.length (List.getD s.1 (Int.toNat s.2.1) ((0:Int),((0:Int),[]))).2.2)) ∧
 (((Int.toNat s.2.2) < (List.length (List.getD s.1 (Int.toNat s.2.1) ((0:Int),((0:Int),[]))).2.2)) ∧
 ((((0:Int) ≤ s.2.1) ∧ (s.2.1 < (s.1.length:Int))) ∧
 (((Int.toNat s.2.1) < (List.length s.1)) ∧
 (((Int.toNat s.2.1) < (List.length s.1)) ∧
 (((Int.toNat s.2.1) < (List.length s.1)) ∧
 ((shadow_pre (x,((List.getD (List.getD s.1 (Int.toNat s.2.1) ((0:Int),((0:Int),[]))).2.2 (Int.toNat s.2.2) (0:Int)),(List.getD s.1 (Int.toNat s.2.1) ((0:Int),((0:Int),[]))).1))) ∧
 letP (shadow (x,((List.getD (List.getD s.1 (Int.toNat s.2.1) ((0:Int),((0:Int),[]))).2.2 (Int.toNat s.2.2) (0:Int)),(List.getD s.1 (Int.toNat s.2.1) ((0:Int),((0:Int),[]))).1))) fun y =>
 (¬ ((y.2 != (0:Int)) = true) →
 ((mright_pre y.1) ∧
 letP (mright y.1) fun y_1 =>
 (¬ ((!y_1) = true) →
 (Term (chartApart_l4_step x) (chartApart_l4_pre x) (s.1,(s.2.1,(s.2.2,(y.1.1.1,(y.1.1.2,(y.1.2.1.1,(y.1.2.1.2,(y.1.2.2.1,(y.1.2.2.2,(0:Int)))))))))))))))))))))))))))))))
def chartApart_l2_t (x : ((List I3) × ((List I2) × ((List I3) × (List I9))))) (s : ((List (Int × (Int × (List Int)))) × I2)) : Tr (((List (Int × (Int × (List Int)))) × I2) ⊕ (Unit ⊕ ((List (Int × (Int × (List Int)))) × Int))) true :=
 (.oI3 s.2.1 s.1
 (.i10 (s.2.2 < (nL (gT s.1 s.2.1 (z0,(z0,[]))).2.2))
 (.oI3 s.2.1 s.1
 (.oI2 s.2.2 (gT s.1 s.2.1 (z0,(z0,[]))).2.2
 (.oI3 s.2.1 s.1
 (.fn shadow_S (x,((gI (gT s.1 s.2.1 (z0,(z0,[]))).2.2 s.2.2),(gT s.1 s.2.1 (z0,(z0,[]))).1)) fun y =>
 (.b01 (y.2 != z0)
 (.ret (.inr (Sum.inl ())))
 (.fn mright_S y.1 fun y_1 =>
 (.b01 (!y_1)
 (.ret (.inr (Sum.inl ())))
 (LoopD.lp (chartApart_l4 x) (chartApart_l4_t x) (s.1,(s.2.1,(s.2.2,(y.1.1.1,(y.1.1.2,(y.1.2.1.1,(y.1.2.1.2,(y.1.2.2.1,(y.1.2.2.2,z0))))))))) fun r =>
 (.s00 r (fun a =>
 (.ret (.inr (Sum.inl ())))) (fun b =>
 (.ret (.inl (b.1,(b.2.1,(w1 b.2.2)))))))))))))))
 (.ret (.inr (Sum.inr ((s.1,s.2.1)))))))
def chartApart_l0 (x : ((List I3) × ((List I2) × ((List I3) × (List I9))))) : LoopD := ⟨[],⟨pvs 105 0 [(1,.v (.one (.ptr 0 0))),(3,.v (.one (.full 5))),(5,.v (.one (.i .i64)))],[.cells [.full 1,.full 2,.full 3,.full 4] 26,.row yy3 0,.row yy2 0,.row yy3 0,.row yy9 0,.row (Ty.prod yi (Ty.prod yi (Ty.sl yi))) 2],0,none,[],[1,2,3,4],[5,0],[(.l (Ty.prod yi (Ty.prod yi (Ty.sl yi)))),.i],[.l yy3 x.1,.l yy2 x.2.1,.l yy3 x.2.2.1,.l yy9 x.2.2.2]⟩,[⟨.ret,.ret,⟨pvs 105 0 [(2,.v (.one (.b)))],[],0,none,[],[0],[],[],[.b false]⟩⟩,⟨(.exit 0),.normal,⟨pvs 105 0 [],[],0,none,[],[],[],[],[]⟩⟩]⟩
def chartApart_l0_step (x : ((List I3) × ((List I2) × ((List I3) × (List I9))))) (s : ((List (Int × (Int × (List Int)))) × Int)) : ((List (Int × (Int × (List Int)))) × Int) ⊕ (Unit ⊕ Unit) :=
 (if (s.2 < (s.1.length:Int)) then
 (letV (run (chartApart_l2_step x) (s.1,(s.2,(0:Int)))) fun r =>
 (Sum.elim (fun a =>
 (Sum.inr (Sum.inl ()))) (fun b =>
 (Sum.inl (b.1,(w64 (b.2 + (1:Int)))))) r)) else
 (Sum.inr (Sum.inr (()))))
def chartApart_l0_pre (x : ((List I3) × ((List I2) × ((List I3) × (List I9))))) (s : ((List (Int × (Int × (List Int)))) × Int)) : Prop :=
 ((s.2 < (s.1.length:Int)) →
 (Term (chartApart_l2_step x) (chartApart_l2_pre x) (s.1,(s.2,(0:Int)))))
def chartApart_l0_t (x : ((List I3) × ((List I2) × ((List I3) × (List I9))))) (s : ((List (Int × (Int × (List Int)))) × Int)) : Tr (((List (Int × (Int × (List Int)))) × Int) ⊕ (Unit ⊕ Unit)) true :=
 (.i10 (s.2 < (nL s.1))
 (LoopD.lp (chartApart_l2 x) (chartApart_l2_t x) (s.1,(s.2,z0)) fun r =>
 (.s00 r (fun a =>
 (.ret (.inr (Sum.inl ())))) (fun b =>
 (.ret (.inl (b.1,(w1 b.2)))))))
 (.ret (.inr (Sum.inr (())))))
def chartApart (x : ((List I3) × ((List I2) × ((List I3) × (List I9))))) : Bool :=
 (letV (few15 (x,[])) fun y =>
 (if ((!y) = true) then
 true else
 (letV (cgrow x) fun y_1 =>
 (if ((y_1.2 != (0:Int)) = true) then
 (letV (charted false) fun y_2 =>
 y_2) else
 (letV (run (chartApart_l0_step x) (y_1.1,(0:Int))) fun r =>
 (Sum.elim (fun a =>
 false) (fun b =>
 (letV (charted false) fun y_2 =>
 y_2)) r))))))
def chartApart_pre (x : ((List I3) × ((List I2) × ((List I3) × (List I9))))) : Prop :=
 ((few15_pre (x,[])) ∧
 letP (few15 (x,[])) fun y =>
 (¬ ((!y) = true) →
 ((cgrow_pre x) ∧
 letP (cgrow x) fun y_1 =>
 ((((y_1.2 != (0:Int)) = true) →
 (charted_pre false)) ∧
 (¬ ((y_1.2 != (0:Int)) = true) →
 (Term (chartApart_l0_step x) (chartApart_l0_pre x) (y_1.1,(0:Int)) ∧
 letP (run (chartApart_l0_step x) (y_1.1,(0:Int))) fun r =>
 (cS r (fun a =>
 True) (fun b =>
 (charted_pre false)))))))))
def chartApart_t (x : ((List I3) × ((List I2) × ((List I3) × (List I9))))) : Tr Bool true :=
 (.fn few15_S (x,[]) fun y =>
 (.b01 (!y)
 (.ret true)
 (.fn cgrow_S x fun y_1 =>
 (.b11 (y_1.2 != z0)
 (.fn charted_S false fun y_2 =>
 (.ret y_2))
 (LoopD.lp (chartApart_l0 x) (chartApart_l0_t x) (y_1.1,z0) fun r =>
 (.s01 r (fun a =>
 (.ret false)) (fun b =>
 (.fn charted_S false fun y_2 =>
 (.ret y_2)))))))))
abbrev chartApart_S : FnS := ⟨(.agg (Ty.prod (Ty.sl yy3) (Ty.prod (Ty.sl yy2) (Ty.prod (Ty.sl yy3) (Ty.sl yy9))))),(.one Ty.bool),chartApart_pre,chartApart⟩
theorem chartApart_ok : SpecOk Try.prog 4 (fnSpec chartApart_S) := SpecOk.tr chartApart_S chartApart_t (fn := Try.f4) tt_ok sp_same15_ok mixed (by kernel_rfl) (ItsOk.nil _ _) (fun x => (LpsOk.tr tt_ok (SpecsOk.ctxI sp_same15_ok (ItsOk.nil _ _)) mixed 0 (chartApart_l0 x) (chartApart_l0_t x) (LpsOk.tr tt_ok (SpecsOk.ctxI sp_same15_ok (ItsOk.nil _ _)) mixed 2 (chartApart_l2 x) (chartApart_l2_t x) (LpsOk.tr tt_ok (SpecsOk.ctxI sp_same15_ok (ItsOk.nil _ _)) mixed 4 (chartApart_l4 x) (chartApart_l4_t x) LpsOk.nil (by kernel_rfl) fun g s Q => (by kernel_rfl)) (by kernel_rfl) fun g s Q => (by kernel_rfl)) (by kernel_rfl) fun g s Q => (by kernel_rfl))) (fun x => (by kernel_rfl)) fun x Q => (by kernel_rfl)
end Go.Proofs.Ytkbmjhabfjgoiaa

namespace Go.Proofs.Ytkbmjhabfjgoiaa
open Go Go.Ev Go.Proofs
theorem take_mem {l : List Int} {n k : Nat} (h : n < k) (h2 : n < l.length) : l.getD n 0 ∈ l.take k := by
 have e : l.getD n 0 = (l.take k).getD n 0 := by
  rw [List.getD_eq_getElem?_getD,List.getD_eq_getElem?_getD,List.getElem?_take,if_pos h]
 rw [e]
 exact getD_in (by rw [List.length_take]; omega) 0
theorem rg {n k : Nat} (h : n < k) : (0:Int) ≤ (n:Int) ∧ (n:Int) < (k:Int) := ⟨by omega,by omega⟩
theorem mright_tm (t : T2) : mright_pre t := (sarea_law _ _ _).1
theorem tri_of {m : Msh} (hm : tameB m = true) {w : P2} {l : List Int} (hg : Good m w l) {k : Nat} (hk : k < l.length) :
  shadow_pre (m,(l.getD k 0,w.1)) ∧ shadow (m,(l.getD k 0,w.1)) = (Shd m (l.getD k 0) w.1,0) ∧ Rt (Shd m (l.getD k 0) w.1) ∧ Has m (l.getD k 0) := by
 have hw := (hg k hk).way
 obtain ⟨h1,h2,h3⟩ := way_has hw
 refine ⟨(shadow_law _ _ _).1,?_,?_,h1⟩
 ·rw [(shadow_law _ _ _).2,if_pos ⟨hm,h1,way_ax hw⟩]
 ·have := shd_right hm h1 h2
  rw [h3]; exact this
theorem ap_in {m : Msh} (hm : tameB m = true) (l : List Chr) (hl : l.length ≤ 1000) {i : Nat} (hi : i < l.length) (hg : Good m (cw (l.getD i zC)) (l.getD i zC).2.2) (hs : (l.getD i zC).2.2.length ≤ 1000) {k : Nat} (hk : k < (l.getD i zC).2.2.length) (t : T2) (ht : t = Shd m ((l.getD i zC).2.2.getD k 0) (l.getD i zC).1) :
  TR (chartApart_l4_step m) (chartApart_l4_pre m) (l,((i:Int),((k:Int),(t.1.1,(t.1.2,(t.2.1.1,(t.2.1.2,(t.2.2.1,(t.2.2.2,0))))))))) (fun r => r = .inr (l,((i:Int),(k:Int)))) := by
 refine for_loop k (fun n s => s = (l,((i:Int),((k:Int),(t.1.1,(t.1.2,(t.2.1.1,(t.2.1.2,(t.2.2.1,(t.2.2.2,(n:Int)))))))))) ) _ (fun n s hn e => ?_) (fun s e => ?_) rfl
 ·subst e
  have hnl : n < (l.getD i zC).2.2.length := by omega
  obtain ⟨a1,a2,a3,a4⟩ := tri_of hm hg hnl
  obtain ⟨b1,b2,b3,b4⟩ := tri_of hm hg hk
  have hap := (hg k hk).apart ((l.getD i zC).2.2.getD n 0) (take_mem hn (by omega))
  have ho : (moverlap (t,Shd m ((l.getD i zC).2.2.getD n 0) (l.getD i zC).1)) = (false,0) := by
   have h1 : ¬ (moverlap (t,Shd m ((l.getD i zC).2.2.getD n 0) (l.getD i zC).1)).1 = true := by rw [ht]; exact hap
   rw [moverlap_law,if_pos ⟨by rw [ht]; exact b3,a3⟩] at h1 ⊢
   dsimp only at h1
   rw [Bool.not_eq_true] at h1
   rw [h1]
  constructor
  ·unfold chartApart_l4_pre
   dsimp only [letP]
   intro _
   simp only [Int.toNat_natCast]
   exact ⟨rg hi,hi,hi,hi,rg hnl,hnl,hnl,rg hi,hi,hi,hi,a1,moverlap_tm _⟩
  ·refine .inl ?_
   unfold chartApart_l4_step
   dsimp only [letV]
   rw [if_pos (by omega)]
   simp only [Int.toNat_natCast]
   have a2' : shadow (m,(List.getD (List.getD l i (0,(0,[]))).2.2 n 0,(List.getD l i (0,(0,[]))).1)) = (Shd m ((l.getD i zC).2.2.getD n 0) (l.getD i zC).1,0) := a2
   have ho' : moverlap (((t.1.1,t.1.2),((t.2.1.1,t.2.1.2),(t.2.2.1,t.2.2.2))),Shd m ((l.getD i zC).2.2.getD n 0) (l.getD i zC).1) = (false,0) := ho
   simp only [a2',ho']
   rw [if_neg (by decide),if_neg (by decide),if_neg (by decide),cnt (n := 1000) (by omega) (by omega)]
   exact ⟨_,rfl,rfl⟩
 ·subst e
  constructor
  ·unfold chartApart_l4_pre
   dsimp only
   intro h; omega
  ·unfold chartApart_l4_step
   dsimp only
   rw [if_neg (by omega)]
   exact ⟨_,rfl,rfl⟩
theorem ap_mid {m : Msh} (hm : tameB m = true) (l : List Chr) (hl : l.length ≤ 1000) {i : Nat} (hi : i < l.length) (hg : Good m (cw (l.getD i zC)) (l.getD i zC).2.2) (hs : (l.getD i zC).2.2.length ≤ 1000) :
  TR (chartApart_l2_step m) (chartApart_l2_pre m) (l,((i:Int),0)) (fun r => r = .inr (l,(i:Int))) := by
 refine for_loop (l.getD i zC).2.2.length (fun n s => s = (l,((i:Int),(n:Int)))) _ (fun n s hn e => ?_) (fun s e => ?_) rfl
 ·subst e
  obtain ⟨a1,a2,a3,a4⟩ := tri_of hm hg hn
  have hin := ap_in hm l hl hi hg hs hn _ rfl
  have hr : mright (Shd m ((l.getD i zC).2.2.getD n 0) (l.getD i zC).1) = true := by
   rw [show Shd m ((l.getD i zC).2.2.getD n 0) (l.getD i zC).1 = ((Shd m ((l.getD i zC).2.2.getD n 0) (l.getD i zC).1).1,((Shd m ((l.getD i zC).2.2.getD n 0) (l.getD i zC).1).2.1,(Shd m ((l.getD i zC).2.2.getD n 0) (l.getD i zC).1).2.2)) from rfl,mright_law]
   exact decide_eq_true a3
  constructor
  ·unfold chartApart_l2_pre
   dsimp only [letP]
   simp only [Int.toNat_natCast]
   rw [show shadow (m,((l.getD i zC).2.2.getD n 0,(l.getD i zC).1)) = _ from a2]
   exact ⟨rg hi,hi,hi,hi,fun _ => ⟨rg hi,hi,hi,hi,rg hn,hn,hn,rg hi,hi,hi,hi,a1,fun _ => ⟨mright_tm _,fun _ => hin.1⟩⟩⟩
  ·refine .inl ?_
   unfold chartApart_l2_step
   dsimp only [letV]
   simp only [Int.toNat_natCast]
   have a2' : shadow (m,(List.getD (List.getD l i (0,(0,[]))).2.2 n 0,(List.getD l i (0,(0,[]))).1)) = (Shd m ((l.getD i zC).2.2.getD n 0) (l.getD i zC).1,0) := a2
   rw [if_pos (rg hn).2]
   simp only [a2',hr]
   rw [if_neg (by decide),if_neg (by decide),hin.2]
   dsimp only [Sum.elim]
   rw [cnt (n := 1000) (by omega) (by omega)]
   exact ⟨_,rfl,rfl⟩
 ·subst e
  constructor
  ·unfold chartApart_l2_pre
   dsimp only
   simp only [Int.toNat_natCast]
   exact ⟨rg hi,hi,hi,hi,fun h => absurd h (Int.lt_irrefl _)⟩
  ·unfold chartApart_l2_step
   dsimp only
   simp only [Int.toNat_natCast]
   rw [if_neg (Int.lt_irrefl _)]
   exact ⟨_,rfl,rfl⟩
theorem ap_out {m : Msh} (hm : tameB m = true) (l : List Chr) (h : Okay m l) : TR (chartApart_l0_step m) (chartApart_l0_pre m) (l,0) (fun r => r = .inr ()) := by
 have hl := h.len
 refine for_loop l.length (fun i s => s = (l,(i:Int))) _ (fun i s hi e => ?_) (fun s e => ?_) rfl
 ·subst e
  have hc : l.getD i zC ∈ l := getD_in hi zC
  have hin := ap_mid hm l hl hi (h.good _ hc).2 (h.small _ hc)
  constructor
  ·unfold chartApart_l0_pre
   dsimp only
   intro _; exact hin.1
  ·refine .inl ?_
   unfold chartApart_l0_step
   dsimp only [letV]
   rw [if_pos (by omega),hin.2]
   dsimp only [Sum.elim]
   rw [cnt (n := 1000) (by omega) (by omega)]
   exact ⟨_,rfl,rfl⟩
 ·subst e
  constructor
  ·unfold chartApart_l0_pre
   dsimp only
   intro h; omega
  ·unfold chartApart_l0_step
   dsimp only
   rw [if_neg (by omega)]
   exact ⟨_,rfl,rfl⟩
theorem letP_i {α : Type} {v : α} {f : α → Prop} (h : f v) : letP v f := h
theorem cS_r {α β : Type} {x : α ⊕ β} {b : β} {f : α → Prop} {g : β → Prop} (e : x = .inr b) (h : g b) : cS x f g := by subst e; exact h
theorem letV_e {α β : Type} (v : α) (f : α → β) : letV v f = f v := rfl
theorem tame_cases (m : Msh) : (tameB m = true ∧ (cgrow m).2 = 0 ∧ Grown m (Free0 m) [] (cgrow m).1) ∨ (tameB m = false ∧ (cgrow m).2 = 1 ∧ (cgrow m).1 = []) := by
 obtain ⟨g1,g2,g3⟩ := cgrow_law m
 cases h : tameB m with
 | true => exact .inl ⟨rfl,g2 h⟩
 | false => exact .inr ⟨rfl,by rw [g3 h],by rw [g3 h]⟩
theorem apart_law (m : Msh) : chartApart_pre m ∧ chartApart m = true := by
 obtain ⟨f1,f2⟩ := few15_law m
 have g1 := (cgrow_law m).1
 obtain ⟨c1,c2⟩ := charted_law
 rcases tame_cases m with ⟨ht,h1,h2⟩ | ⟨ht,h1,h2⟩
 ·have hA := ap_out ht _ (h2.okay ht)
  constructor
  ·unfold chartApart_pre
   exact ⟨f1,letP_i fun _ => ⟨g1,letP_i ⟨fun h => by rw [h1] at h; exact absurd h (by decide),fun _ => ⟨hA.1,letP_i (cS_r hA.2 c1)⟩⟩⟩⟩
  ·unfold chartApart
   rw [letV_e]
   cases hf : few15 (m,[]) with
   | false => rw [if_pos (by decide)]
   | true => rw [if_neg (by decide),letV_e,h1,if_neg (by decide),letV_e,hA.2,Sum.elim_inr,letV_e,c2]
 ·constructor
  ·unfold chartApart_pre
   exact ⟨f1,letP_i fun _ => ⟨g1,letP_i ⟨fun _ => c1,fun h => by rw [h1] at h; exact absurd (by decide) h⟩⟩⟩
  ·unfold chartApart
   rw [letV_e]
   cases hf : few15 (m,[]) with
   | false => rw [if_pos (by decide)]
   | true => rw [if_neg (by decide),letV_e,h1,if_pos (by decide),letV_e,c2]
end Go.Proofs.Ytkbmjhabfjgoiaa
