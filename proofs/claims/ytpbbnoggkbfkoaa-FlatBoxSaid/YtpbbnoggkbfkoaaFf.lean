/- Models of functions of layer 16: patches. -/
import Derived.Test.YtpbbnoggkbfkoaaFe
namespace Go.Proofs.Ytpbbnoggkbfkoaa
open Go Go.Ev Go.Proofs
set_option linter.unusedVariables false
def sp_lay0 : List (Nat × Ev.Spec) := (17, fnSpec fbox_S) :: (23, fnSpec fapart_S) :: (16, fnSpec moverlap_S) :: sp_turnedM
theorem sp_lay0_ok : SpecsOk Try.prog sp_lay0 := SpecsOk.cons (Enters.of (fn := Try.f17) (by kernel_rfl) (by kernel_rfl) (by kernel_rfl)) fbox_ok (SpecsOk.cons (Enters.of (fn := Try.f23) (by kernel_rfl) (by kernel_rfl) (by kernel_rfl)) fapart_ok (SpecsOk.cons (Enters.of (fn := Try.f16) (by kernel_rfl) (by kernel_rfl) (by kernel_rfl)) moverlap_ok sp_turnedM_ok))
noncomputable def fis (x : ((List Int) × ((List ((Int × Int) × ((Int × Int) × (Int × Int)))) × (Int × Int)))) : Bool :=
 (if ((((List.length x.1) : Nat) : Int) > (500 : Int)) then
 false else
 (if (((((List.length x.2.1) : Nat) : Int) != (((List.length x.1) : Nat) : Int)) = true) then
 false else
 (letV (containsT (x.2.1, false)) fun y =>
 (if (y = true) then
 false else
 (letV (fbox x.2.1) fun y_1 =>
 (if ((y_1.2.2 != (0 : Int)) = true) then
 false else
 (if ((!((y_1.1.1 == (0 : Int)) && ((y_1.1.2 == (0 : Int)) && true))) = true) then
 false else
 (letV (fsizes y_1.2.1) fun y_2 =>
 (if ((x.2.2.1 == y_2.1) = true) then
 (if ((x.2.2.2 == y_2.2) = true) then
 (letV (fapart x.2.1) fun y_3 =>
 y_3) else
 false) else
 false)))))))))
noncomputable def fis_pre (x : ((List Int) × ((List ((Int × Int) × ((Int × Int) × (Int × Int)))) × (Int × Int)))) : Prop :=
 (¬ ((((List.length x.1) : Nat) : Int) > (500 : Int)) →
 (¬ (((((List.length x.2.1) : Nat) : Int) != (((List.length x.1) : Nat) : Int)) = true) →
 ((containsT_pre (x.2.1, false)) ∧
 letP (containsT (x.2.1, false)) fun y =>
 (¬ (y = true) →
 ((fbox_pre x.2.1) ∧
 letP (fbox x.2.1) fun y_1 =>
 (¬ ((y_1.2.2 != (0 : Int)) = true) →
 (¬ ((!((y_1.1.1 == (0 : Int)) && ((y_1.1.2 == (0 : Int)) && true))) = true) →
 (letP (fsizes y_1.2.1) fun y_2 =>
 (((x.2.2.1 == y_2.1) = true) →
 (((x.2.2.2 == y_2.2) = true) →
 (fapart_pre x.2.1)))))))))))
theorem fis_vc (x : ((List Int) × ((List ((Int × Int) × ((Int × Int) × (Int × Int)))) × (Int × Int)))) (Q : Bool → Prop) : fnE ⟨tt, sp_lay0, noX, [], [], []⟩ Try.f10 (argsE (.agg (Ty.prod (Ty.sl yi) (Ty.prod (Ty.sl yy6) yy2))) x) (heapE (.agg (Ty.prod (Ty.sl yi) (Ty.prod (Ty.sl yy6) yy2))) x) (retE (.one Ty.bool) Q) =
 (cB (decide ((((List.length x.1) : Nat) : Int) > (500 : Int)))
 (Q false)
 (cB ((((List.length x.2.1) : Nat) : Int) != (((List.length x.1) : Nat) : Int))
 (Q false)
 ((containsT_pre (x.2.1, false)) ∧ ∀ y : Bool, y = (containsT (x.2.1, false)) →
 (cB y
 (Q false)
 ((fbox_pre x.2.1) ∧ ∀ y_1 : ((Int × Int) × ((Int × Int) × Int)), y_1 = (fbox x.2.1) →
 (cB (y_1.2.2 != (0 : Int))
 (Q false)
 (cB (!((y_1.1.1 == (0 : Int)) && ((y_1.1.2 == (0 : Int)) && true)))
 (Q false)
 ((fsizes_pre y_1.2.1) ∧ ∀ y_2 : (Int × Int), y_2 = (fsizes y_1.2.1) →
 (cB (x.2.2.1 == y_2.1)
 (cB (x.2.2.2 == y_2.2)
 ((fapart_pre x.2.1) ∧ ∀ y_3 : Bool, y_3 = (fapart x.2.1) →
 (Q y_3))
 (Q false))
 (Q false)))))))))) := by kernel_rfl
theorem fis_fn (x : ((List Int) × ((List ((Int × Int) × ((Int × Int) × (Int × Int)))) × (Int × Int)))) (Q : Bool → Prop) (hp : fis_pre x) (hq : Q (fis x)) : Vc (fnE ⟨tt, sp_lay0, noX, [], [], []⟩ Try.f10 (argsE (.agg (Ty.prod (Ty.sl yi) (Ty.prod (Ty.sl yy6) yy2))) x) (heapE (.agg (Ty.prod (Ty.sl yi) (Ty.prod (Ty.sl yy6) yy2))) x) (retE (.one Ty.bool) Q)) := .eq (fis_vc x Q) (have hp := Eq.mp (fis_pre.eq_1 x) hp; have hq := Eq.mp (congrArg Q (fis.eq_1 x)) hq;
 (cB_d (Q := Q) hq (fun c hq => hq) (fun c hq => have hp := (hp c); (cB_b (Q := Q) hq (fun c hq => hq) (fun c hq => have hp := (hp c); (And.intro hp.1 (let_k (Q := Q) hp.2 hq fun y hp hq => (cB_b (Q := Q) hq (fun c hq => hq) (fun c hq => have hp := (hp c); (And.intro hp.1 (let_k (Q := Q) hp.2 hq fun y_1 hp hq => (cB_b (Q := Q) hq (fun c hq => hq) (fun c hq => have hp := (hp c); (cB_b (Q := Q) hq (fun c hq => hq) (fun c hq => have hp := (hp c); (And.intro trivial (let_k (Q := Q) hp hq fun y_2 hp hq => (cB_b (Q := Q) hq (fun c hq => have hp := (hp c); (cB_b (Q := Q) hq (fun c hq => have hp := (hp c); (And.intro hp (let_0 (Q := Q) hq fun y_3 hq => hq))) (fun c hq => hq))) (fun c hq => hq)))))))))))))))))))
noncomputable def fis_S : FnS := ⟨(.agg (Ty.prod (Ty.sl yi) (Ty.prod (Ty.sl yy6) yy2))), (.one Ty.bool), fis_pre, fis⟩
theorem fis_ok : SpecOk Try.prog 10 (fnSpec fis_S) := SpecOk.fnT' (fn := Try.f10) tt_ok sp_lay0_ok mixed (by kernel_rfl) (by kernel_rfl) (.agg (Ty.prod (Ty.sl yi) (Ty.prod (Ty.sl yy6) yy2))) (.one Ty.bool) fis_pre fis (by kernel_rfl) fun x hp => ⟨_, _, (ItsOk.nil _ _), LpsOk.nil, fis_fn x (fun y => y = fis x) hp rfl⟩
def sp_fis : List (Nat × Ev.Spec) := (10, fnSpec fis_S) :: sp_lay0
theorem sp_fis_ok : SpecsOk Try.prog sp_fis := SpecsOk.cons (Enters.of (fn := Try.f10) (by kernel_rfl) (by kernel_rfl) (by kernel_rfl)) fis_ok sp_lay0_ok
noncomputable def flay_l0_tm (x : (((List (Int × (Int × Int))) × ((List (Int × Int)) × ((List (Int × (Int × Int))) × (List ((Int × (Int × Int)) × ((Int × (Int × Int)) × (Int × (Int × Int)))))))) × ((Int × (Int × (List Int))) × Int))) (s : ((List ((Int × Int) × ((Int × Int) × (Int × Int)))) × Int)) : AS := ⟨(D :: D :: D :: .v (.one (.ptr 0 0)) :: .v (.one (.ptr 5 0)) :: .v (.one (.ptr 7 0)) :: .v (.one (.ptr 8 0)) :: D :: .v (.one (.full 9)) :: D :: D :: D :: D :: D :: D :: D :: D :: D :: D :: D :: D :: D :: D :: D :: D :: D :: D :: D :: D :: D :: .v (.one (.full 6)) :: vi (((List.length x.2.1.2.2) : Nat) : Int) :: vi s.2 :: D :: D :: D :: D :: D :: D :: D :: D :: D :: D :: D :: D :: D :: D :: D :: D :: D :: D :: D :: D :: D :: D :: D :: D :: D :: D :: D :: D :: D :: D :: D :: D :: D :: D :: D :: D :: D :: D :: D :: D :: D :: D :: D :: D :: D :: D :: D :: D :: D :: D :: D :: D :: D :: D :: D :: D :: D :: D :: D :: D :: D :: D :: D :: D :: D :: D :: D :: D :: D :: D :: D :: D :: D :: D :: D :: D :: D :: D :: D :: D :: []), [.cells [.full 1, .full 2, .full 3, .full 4] 26, .row yy3 x.1.1 0, .row yy2 x.1.2.1 0, .row yy3 x.1.2.2.1 0, .row yy9 x.1.2.2.2 0, .cells [ci x.2.1.1, ci x.2.1.2.1, .full 6] 29, .row yi x.2.1.2.2 0, .cells [ci x.2.2] 3, .cells [.raw (.slice none 0 0), .raw (.slice none 0 0), ci (0 : Int), ci (0 : Int)] 34, .row yy6 s.1 2]⟩
noncomputable def flay_l0_out (x : (((List (Int × (Int × Int))) × ((List (Int × Int)) × ((List (Int × (Int × Int))) × (List ((Int × (Int × Int)) × ((Int × (Int × Int)) × (Int × (Int × Int)))))))) × ((Int × (Int × (List Int))) × Int))) (r : (Int ⊕ (List ((Int × Int) × ((Int × Int) × (Int × Int)))))) (K : Exit → AS → Prop) : Prop := cS r (fun a0 => K .ret ⟨(D :: D :: D :: D :: D :: D :: .v (.one (.ptr 0 0)) :: vi a0 :: D :: D :: D :: D :: D :: D :: D :: D :: D :: D :: D :: D :: D :: D :: D :: D :: D :: D :: D :: D :: D :: D :: D :: D :: D :: D :: D :: D :: D :: D :: D :: D :: D :: D :: D :: D :: D :: D :: D :: D :: D :: D :: D :: D :: D :: D :: D :: D :: D :: D :: D :: D :: D :: D :: D :: D :: D :: D :: D :: D :: D :: D :: D :: D :: D :: D :: D :: D :: D :: D :: D :: D :: D :: D :: D :: D :: D :: D :: D :: D :: D :: D :: D :: D :: D :: D :: D :: D :: D :: D :: D :: D :: D :: D :: D :: D :: D :: D :: D :: D :: D :: D :: D :: D :: D :: []), [.cells [.raw (.slice none 0 0), .raw (.slice none 0 0), ci (0 : Int), ci (0 : Int)] 34]⟩) (fun b0 => K .normal ⟨(D :: D :: D :: D :: .v (.one (.ptr 0 0)) :: .v (.one (.ptr 2 0)) :: .v (.one (.ptr 3 0)) :: D :: .v (.one (.full 4)) :: D :: D :: D :: D :: D :: D :: D :: D :: D :: D :: D :: D :: D :: D :: D :: D :: D :: D :: D :: D :: D :: D :: D :: D :: D :: D :: D :: D :: D :: D :: D :: D :: D :: D :: D :: D :: D :: D :: D :: D :: D :: D :: D :: D :: D :: D :: D :: D :: D :: D :: D :: D :: D :: D :: D :: D :: D :: D :: D :: D :: D :: D :: D :: D :: D :: D :: D :: D :: D :: D :: D :: D :: D :: D :: D :: D :: D :: D :: D :: D :: D :: D :: D :: D :: D :: D :: D :: D :: D :: D :: D :: D :: D :: D :: D :: D :: D :: D :: D :: D :: D :: D :: D :: D :: []), [.cells [ci x.2.1.1, ci x.2.1.2.1, .full 1] 29, .row yi x.2.1.2.2 0, .cells [ci x.2.2] 3, .cells [.raw (.slice none 0 0), .raw (.slice none 0 0), ci (0 : Int), ci (0 : Int)] 34, .row yy6 b0 2]⟩)
noncomputable def flay_l0_step (x : (((List (Int × (Int × Int))) × ((List (Int × Int)) × ((List (Int × (Int × Int))) × (List ((Int × (Int × Int)) × ((Int × (Int × Int)) × (Int × (Int × Int)))))))) × ((Int × (Int × (List Int))) × Int))) (s : ((List ((Int × Int) × ((Int × Int) × (Int × Int)))) × Int)) : ((List ((Int × Int) × ((Int × Int) × (Int × Int)))) × Int) ⊕ (Int ⊕ (List ((Int × Int) × ((Int × Int) × (Int × Int))))) :=
 (if (s.2 < (((List.length x.2.1.2.2) : Nat) : Int)) then
 (letV (facing (x.1, (List.getD x.2.1.2.2 (Int.toNat s.2) (0 : Int)))) fun y =>
 (if ((!y.2.2) = true) then
 (Sum.inr (Sum.inl (1 : Int))) else
 (if ((y.1 != x.2.1.1) = true) then
 (Sum.inr (Sum.inl (1 : Int))) else
 (if ((y.2.1 != x.2.1.2.1) = true) then
 (Sum.inr (Sum.inl (1 : Int))) else
 (letV (shadow (x.1, ((List.getD x.2.1.2.2 (Int.toNat s.2) (0 : Int)), y.1))) fun y_1 =>
 (if ((y_1.2 != (0 : Int)) = true) then
 (Sum.inr (Sum.inl y_1.2)) else
 (Sum.inl ((s.1 ++ [y_1.1]), (w64 (s.2 + (1 : Int))))))))))) else
 (Sum.inr (Sum.inr (s.1))))
noncomputable def flay_l0_pre (x : (((List (Int × (Int × Int))) × ((List (Int × Int)) × ((List (Int × (Int × Int))) × (List ((Int × (Int × Int)) × ((Int × (Int × Int)) × (Int × (Int × Int)))))))) × ((Int × (Int × (List Int))) × Int))) (s : ((List ((Int × Int) × ((Int × Int) × (Int × Int)))) × Int)) : Prop :=
 ((s.2 < (((List.length x.2.1.2.2) : Nat) : Int)) →
 ((((0 : Int) ≤ s.2) ∧ (s.2 < (((List.length x.2.1.2.2) : Nat) : Int))) ∧
 (((Int.toNat s.2) < (List.length x.2.1.2.2)) ∧
 (((Int.toNat s.2) < (List.length x.2.1.2.2)) ∧
 ((facing_pre (x.1, (List.getD x.2.1.2.2 (Int.toNat s.2) (0 : Int)))) ∧
 letP (facing (x.1, (List.getD x.2.1.2.2 (Int.toNat s.2) (0 : Int)))) fun y =>
 (¬ ((!y.2.2) = true) →
 (¬ ((y.1 != x.2.1.1) = true) →
 (¬ ((y.2.1 != x.2.1.2.1) = true) →
 ((shadow_pre (x.1, ((List.getD x.2.1.2.2 (Int.toNat s.2) (0 : Int)), y.1))) ∧
 letP (shadow (x.1, ((List.getD x.2.1.2.2 (Int.toNat s.2) (0 : Int)), y.1))) fun y_1 =>
 (¬ ((y_1.2 != (0 : Int)) = true) →
 (((List.length s.1) + 1) < 1099511627776)))))))))))
noncomputable def flay_l0_sp (x : (((List (Int × (Int × Int))) × ((List (Int × Int)) × ((List (Int × (Int × Int))) × (List ((Int × (Int × Int)) × ((Int × (Int × Int)) × (Int × (Int × Int)))))))) × ((Int × (Int × (List Int))) × Int))) : LSpec := loopSp (flay_l0_tm x) (flay_l0_step x) (flay_l0_pre x) (flay_l0_out x)
theorem flay_l0_vc (x : (((List (Int × (Int × Int))) × ((List (Int × Int)) × ((List (Int × (Int × Int))) × (List ((Int × (Int × Int)) × ((Int × (Int × Int)) × (Int × (Int × Int)))))))) × ((Int × (Int × (List Int))) × Int))) (s : ((List ((Int × Int) × ((Int × Int) × (Int × Int)))) × Int)) (K : Exit → AS → Prop) (KN : AS → Prop) : codeE ⟨tt, sp_fis, noX, [], [], []⟩ (cI (blk 0 (bodyOf Try.f8))) (flay_l0_tm x s) (KB 0 K KN) =
 (cB (decide (s.2 < (((List.length x.2.1.2.2) : Nat) : Int)))
 (ob ((decide ((0 : Int) ≤ s.2)) && (decide (s.2 < (((List.length x.2.1.2.2) : Nat) : Int))))
 (ob (decide ((Int.toNat s.2) < (List.length x.2.1.2.2)))
 (ob (decide ((Int.toNat s.2) < (List.length x.2.1.2.2)))
 ((facing_pre (x.1, (List.getD x.2.1.2.2 (Int.toNat s.2) (0 : Int)))) ∧ ∀ y : (Int × (Int × Bool)), y = (facing (x.1, (List.getD x.2.1.2.2 (Int.toNat s.2) (0 : Int)))) →
 (cB (!y.2.2)
 (KB 0 K KN .ret ⟨(D :: D :: D :: .v (.one (.ptr 0 0)) :: .v (.one (.ptr 5 0)) :: .v (.one (.ptr 7 0)) :: .v (.one (.ptr 8 0)) :: vi (1 : Int) :: .v (.one (.full 9)) :: D :: vi (List.getD x.2.1.2.2 (Int.toNat s.2) (0 : Int)) :: vi y.1 :: vi y.2.1 :: vb y.2.2 :: D :: D :: D :: D :: D :: D :: D :: D :: D :: D :: D :: D :: D :: D :: D :: D :: .v (.one (.full 6)) :: vi (((List.length x.2.1.2.2) : Nat) : Int) :: vi s.2 :: vb (decide (s.2 < (((List.length x.2.1.2.2) : Nat) : Int))) :: .v (.one (.eptr 6 (Int.toNat s.2) 0)) :: vi (List.getD x.2.1.2.2 (Int.toNat s.2) (0 : Int)) :: .tup [.one (ci y.1), .one (ci y.2.1), .one (.raw (.bool y.2.2))] :: .v (.agg [.full 1, .full 2, .full 3, .full 4]) :: vi (List.getD x.2.1.2.2 (Int.toNat s.2) (0 : Int)) :: .tup [.one (ci y.1), .one (ci y.2.1), .one (.raw (.bool y.2.2))] :: vi y.1 :: vi y.2.1 :: vb y.2.2 :: vb y.2.2 :: vb (!y.2.2) :: vb true :: und :: und :: und :: und :: vb true :: vb true :: und :: und :: und :: und :: vb true :: .v (.agg [.raw (.slice none 0 0), .raw (.slice none 0 0), ci (0 : Int), ci (0 : Int)]) :: D :: D :: D :: D :: D :: D :: D :: D :: D :: D :: D :: D :: D :: D :: D :: D :: D :: D :: D :: D :: D :: D :: D :: D :: D :: D :: D :: D :: D :: D :: D :: D :: D :: D :: D :: D :: D :: D :: D :: D :: D :: D :: D :: D :: D :: D :: D :: D :: D :: D :: D :: D :: D :: D :: D :: []), [.cells [.full 1, .full 2, .full 3, .full 4] 26, .row yy3 x.1.1 0, .row yy2 x.1.2.1 0, .row yy3 x.1.2.2.1 0, .row yy9 x.1.2.2.2 0, .cells [ci x.2.1.1, ci x.2.1.2.1, .full 6] 29, .row yi x.2.1.2.2 0, .cells [ci x.2.2] 3, .cells [.raw (.slice none 0 0), .raw (.slice none 0 0), ci (0 : Int), ci (0 : Int)] 34, .row yy6 s.1 2]⟩)
 (cB (y.1 != x.2.1.1)
 (KB 0 K KN .ret ⟨(D :: D :: D :: .v (.one (.ptr 0 0)) :: .v (.one (.ptr 5 0)) :: .v (.one (.ptr 7 0)) :: .v (.one (.ptr 8 0)) :: vi (1 : Int) :: .v (.one (.full 9)) :: D :: vi (List.getD x.2.1.2.2 (Int.toNat s.2) (0 : Int)) :: vi y.1 :: vi y.2.1 :: vb y.2.2 :: D :: D :: D :: D :: D :: D :: D :: D :: D :: D :: D :: D :: D :: D :: D :: D :: .v (.one (.full 6)) :: vi (((List.length x.2.1.2.2) : Nat) : Int) :: vi s.2 :: vb (decide (s.2 < (((List.length x.2.1.2.2) : Nat) : Int))) :: .v (.one (.eptr 6 (Int.toNat s.2) 0)) :: vi (List.getD x.2.1.2.2 (Int.toNat s.2) (0 : Int)) :: .tup [.one (ci y.1), .one (ci y.2.1), .one (.raw (.bool y.2.2))] :: .v (.agg [.full 1, .full 2, .full 3, .full 4]) :: vi (List.getD x.2.1.2.2 (Int.toNat s.2) (0 : Int)) :: .tup [.one (ci y.1), .one (ci y.2.1), .one (.raw (.bool y.2.2))] :: vi y.1 :: vi y.2.1 :: vb y.2.2 :: vb y.2.2 :: vb (!y.2.2) :: vb false :: vi y.1 :: .v (.one (.ptr 5 0)) :: vi x.2.1.1 :: vb (y.1 != x.2.1.1) :: vb (y.1 != x.2.1.1) :: vb true :: und :: und :: und :: und :: vb true :: .v (.agg [.raw (.slice none 0 0), .raw (.slice none 0 0), ci (0 : Int), ci (0 : Int)]) :: D :: D :: D :: D :: D :: D :: D :: D :: D :: D :: D :: D :: D :: D :: D :: D :: D :: D :: D :: D :: D :: D :: D :: D :: D :: D :: D :: D :: D :: D :: D :: D :: D :: D :: D :: D :: D :: D :: D :: D :: D :: D :: D :: D :: D :: D :: D :: D :: D :: D :: D :: D :: D :: D :: D :: []), [.cells [.full 1, .full 2, .full 3, .full 4] 26, .row yy3 x.1.1 0, .row yy2 x.1.2.1 0, .row yy3 x.1.2.2.1 0, .row yy9 x.1.2.2.2 0, .cells [ci x.2.1.1, ci x.2.1.2.1, .full 6] 29, .row yi x.2.1.2.2 0, .cells [ci x.2.2] 3, .cells [.raw (.slice none 0 0), .raw (.slice none 0 0), ci (0 : Int), ci (0 : Int)] 34, .row yy6 s.1 2]⟩)
 (cB (y.2.1 != x.2.1.2.1)
 (KB 0 K KN .ret ⟨(D :: D :: D :: .v (.one (.ptr 0 0)) :: .v (.one (.ptr 5 0)) :: .v (.one (.ptr 7 0)) :: .v (.one (.ptr 8 0)) :: vi (1 : Int) :: .v (.one (.full 9)) :: D :: vi (List.getD x.2.1.2.2 (Int.toNat s.2) (0 : Int)) :: vi y.1 :: vi y.2.1 :: vb y.2.2 :: D :: D :: D :: D :: D :: D :: D :: D :: D :: D :: D :: D :: D :: D :: D :: D :: .v (.one (.full 6)) :: vi (((List.length x.2.1.2.2) : Nat) : Int) :: vi s.2 :: vb (decide (s.2 < (((List.length x.2.1.2.2) : Nat) : Int))) :: .v (.one (.eptr 6 (Int.toNat s.2) 0)) :: vi (List.getD x.2.1.2.2 (Int.toNat s.2) (0 : Int)) :: .tup [.one (ci y.1), .one (ci y.2.1), .one (.raw (.bool y.2.2))] :: .v (.agg [.full 1, .full 2, .full 3, .full 4]) :: vi (List.getD x.2.1.2.2 (Int.toNat s.2) (0 : Int)) :: .tup [.one (ci y.1), .one (ci y.2.1), .one (.raw (.bool y.2.2))] :: vi y.1 :: vi y.2.1 :: vb y.2.2 :: vb y.2.2 :: vb (!y.2.2) :: vb false :: vi y.1 :: .v (.one (.ptr 5 0)) :: vi x.2.1.1 :: vb (y.1 != x.2.1.1) :: vb (y.1 != x.2.1.1) :: vb false :: vi y.2.1 :: .v (.one (.ptr 5 1)) :: vi x.2.1.2.1 :: vb (y.2.1 != x.2.1.2.1) :: vb (y.2.1 != x.2.1.2.1) :: .v (.agg [.raw (.slice none 0 0), .raw (.slice none 0 0), ci (0 : Int), ci (0 : Int)]) :: D :: D :: D :: D :: D :: D :: D :: D :: D :: D :: D :: D :: D :: D :: D :: D :: D :: D :: D :: D :: D :: D :: D :: D :: D :: D :: D :: D :: D :: D :: D :: D :: D :: D :: D :: D :: D :: D :: D :: D :: D :: D :: D :: D :: D :: D :: D :: D :: D :: D :: D :: D :: D :: D :: D :: []), [.cells [.full 1, .full 2, .full 3, .full 4] 26, .row yy3 x.1.1 0, .row yy2 x.1.2.1 0, .row yy3 x.1.2.2.1 0, .row yy9 x.1.2.2.2 0, .cells [ci x.2.1.1, ci x.2.1.2.1, .full 6] 29, .row yi x.2.1.2.2 0, .cells [ci x.2.2] 3, .cells [.raw (.slice none 0 0), .raw (.slice none 0 0), ci (0 : Int), ci (0 : Int)] 34, .row yy6 s.1 2]⟩)
 ((shadow_pre (x.1, ((List.getD x.2.1.2.2 (Int.toNat s.2) (0 : Int)), y.1))) ∧ ∀ y_1 : (((Int × Int) × ((Int × Int) × (Int × Int))) × Int), y_1 = (shadow (x.1, ((List.getD x.2.1.2.2 (Int.toNat s.2) (0 : Int)), y.1))) →
 (cB (y_1.2 != (0 : Int))
 (KB 0 K KN .ret ⟨(D :: D :: D :: .v (.one (.ptr 0 0)) :: .v (.one (.ptr 5 0)) :: .v (.one (.ptr 7 0)) :: .v (.one (.ptr 8 0)) :: vi y_1.2 :: .v (.one (.full 9)) :: D :: vi (List.getD x.2.1.2.2 (Int.toNat s.2) (0 : Int)) :: vi y.1 :: vi y.2.1 :: vb y.2.2 :: .v (.one (.ptr 10 0)) :: vi y_1.2 :: D :: D :: D :: D :: D :: D :: D :: D :: D :: D :: D :: D :: D :: D :: .v (.one (.full 6)) :: vi (((List.length x.2.1.2.2) : Nat) : Int) :: vi s.2 :: vb (decide (s.2 < (((List.length x.2.1.2.2) : Nat) : Int))) :: .v (.one (.eptr 6 (Int.toNat s.2) 0)) :: vi (List.getD x.2.1.2.2 (Int.toNat s.2) (0 : Int)) :: .tup [.one (ci y.1), .one (ci y.2.1), .one (.raw (.bool y.2.2))] :: .v (.agg [.full 1, .full 2, .full 3, .full 4]) :: vi (List.getD x.2.1.2.2 (Int.toNat s.2) (0 : Int)) :: .tup [.one (ci y.1), .one (ci y.2.1), .one (.raw (.bool y.2.2))] :: vi y.1 :: vi y.2.1 :: vb y.2.2 :: vb y.2.2 :: vb (!y.2.2) :: vb false :: vi y.1 :: .v (.one (.ptr 5 0)) :: vi x.2.1.1 :: vb (y.1 != x.2.1.1) :: vb (y.1 != x.2.1.1) :: vb false :: vi y.2.1 :: .v (.one (.ptr 5 1)) :: vi x.2.1.2.1 :: vb (y.2.1 != x.2.1.2.1) :: vb (y.2.1 != x.2.1.2.1) :: D :: .tup [.agg [ci y_1.1.1.1, ci y_1.1.1.2, ci y_1.1.2.1.1, ci y_1.1.2.1.2, ci y_1.1.2.2.1, ci y_1.1.2.2.2], .one (ci y_1.2)] :: .v (.agg [.full 1, .full 2, .full 3, .full 4]) :: vi (List.getD x.2.1.2.2 (Int.toNat s.2) (0 : Int)) :: vi y.1 :: .tup [.agg [ci y_1.1.1.1, ci y_1.1.1.2, ci y_1.1.2.1.1, ci y_1.1.2.1.2, ci y_1.1.2.2.1, ci y_1.1.2.2.2], .one (ci y_1.2)] :: .v (.agg [ci y_1.1.1.1, ci y_1.1.1.2, ci y_1.1.2.1.1, ci y_1.1.2.1.2, ci y_1.1.2.2.1, ci y_1.1.2.2.2]) :: vi y_1.2 :: vi y_1.2 :: vb (y_1.2 != (0 : Int)) :: .v (.agg [.raw (.slice none 0 0), .raw (.slice none 0 0), ci (0 : Int), ci (0 : Int)]) :: vi y_1.2 :: D :: D :: D :: D :: D :: D :: D :: D :: D :: D :: D :: D :: D :: D :: D :: D :: D :: D :: D :: D :: D :: D :: D :: D :: D :: D :: D :: D :: D :: D :: D :: D :: D :: D :: D :: D :: D :: D :: D :: D :: D :: D :: D :: D :: []), [.cells [.full 1, .full 2, .full 3, .full 4] 26, .row yy3 x.1.1 0, .row yy2 x.1.2.1 0, .row yy3 x.1.2.2.1 0, .row yy9 x.1.2.2.2 0, .cells [ci x.2.1.1, ci x.2.1.2.1, .full 6] 29, .row yi x.2.1.2.2 0, .cells [ci x.2.2] 3, .cells [.raw (.slice none 0 0), .raw (.slice none 0 0), ci (0 : Int), ci (0 : Int)] 34, .row yy6 s.1 2, .cells [ci y_1.1.1.1, ci y_1.1.1.2, ci y_1.1.2.1.1, ci y_1.1.2.1.2, ci y_1.1.2.2.1, ci y_1.1.2.2.2] 43]⟩)
 (ob (decide (((List.length s.1) + 1) < 1099511627776))
 (KB 0 K KN .normal ⟨(D :: D :: D :: .v (.one (.ptr 0 0)) :: .v (.one (.ptr 5 0)) :: .v (.one (.ptr 7 0)) :: .v (.one (.ptr 8 0)) :: D :: .v (.one (.full 12)) :: D :: vi (List.getD x.2.1.2.2 (Int.toNat s.2) (0 : Int)) :: vi y.1 :: vi y.2.1 :: vb y.2.2 :: .v (.one (.ptr 10 0)) :: vi y_1.2 :: D :: D :: D :: D :: D :: D :: D :: D :: D :: D :: D :: D :: D :: D :: .v (.one (.full 6)) :: vi (((List.length x.2.1.2.2) : Nat) : Int) :: vi (w64 (s.2 + (1 : Int))) :: vb (decide (s.2 < (((List.length x.2.1.2.2) : Nat) : Int))) :: .v (.one (.eptr 6 (Int.toNat s.2) 0)) :: vi (List.getD x.2.1.2.2 (Int.toNat s.2) (0 : Int)) :: .tup [.one (ci y.1), .one (ci y.2.1), .one (.raw (.bool y.2.2))] :: .v (.agg [.full 1, .full 2, .full 3, .full 4]) :: vi (List.getD x.2.1.2.2 (Int.toNat s.2) (0 : Int)) :: .tup [.one (ci y.1), .one (ci y.2.1), .one (.raw (.bool y.2.2))] :: vi y.1 :: vi y.2.1 :: vb y.2.2 :: vb y.2.2 :: vb (!y.2.2) :: vb false :: vi y.1 :: .v (.one (.ptr 5 0)) :: vi x.2.1.1 :: vb (y.1 != x.2.1.1) :: vb (y.1 != x.2.1.1) :: vb false :: vi y.2.1 :: .v (.one (.ptr 5 1)) :: vi x.2.1.2.1 :: vb (y.2.1 != x.2.1.2.1) :: vb (y.2.1 != x.2.1.2.1) :: D :: .tup [.agg [ci y_1.1.1.1, ci y_1.1.1.2, ci y_1.1.2.1.1, ci y_1.1.2.1.2, ci y_1.1.2.2.1, ci y_1.1.2.2.2], .one (ci y_1.2)] :: .v (.agg [.full 1, .full 2, .full 3, .full 4]) :: vi (List.getD x.2.1.2.2 (Int.toNat s.2) (0 : Int)) :: vi y.1 :: .tup [.agg [ci y_1.1.1.1, ci y_1.1.1.2, ci y_1.1.2.1.1, ci y_1.1.2.1.2, ci y_1.1.2.2.1, ci y_1.1.2.2.2], .one (ci y_1.2)] :: .v (.agg [ci y_1.1.1.1, ci y_1.1.1.2, ci y_1.1.2.1.1, ci y_1.1.2.1.2, ci y_1.1.2.2.1, ci y_1.1.2.2.2]) :: vi y_1.2 :: vi y_1.2 :: vb (y_1.2 != (0 : Int)) :: D :: D :: .v (.one (.full 9)) :: .v (.agg [ci y_1.1.1.1, ci y_1.1.1.2, ci y_1.1.2.1.1, ci y_1.1.2.1.2, ci y_1.1.2.2.1, ci y_1.1.2.2.2]) :: .v (.one (.sl 11 0 1 1)) :: .v (.one (.full 12)) :: vi (w64 (s.2 + (1 : Int))) :: D :: D :: D :: D :: D :: D :: D :: D :: D :: D :: D :: D :: D :: D :: D :: D :: D :: D :: D :: D :: D :: D :: D :: D :: D :: D :: D :: D :: D :: D :: D :: D :: D :: D :: D :: D :: D :: D :: D :: []), [.cells [.full 1, .full 2, .full 3, .full 4] 26, .row yy3 x.1.1 0, .row yy2 x.1.2.1 0, .row yy3 x.1.2.2.1 0, .row yy9 x.1.2.2.2 0, .cells [ci x.2.1.1, ci x.2.1.2.1, .full 6] 29, .row yi x.2.1.2.2 0, .cells [ci x.2.2] 3, .cells [.raw (.slice none 0 0), .raw (.slice none 0 0), ci (0 : Int), ci (0 : Int)] 34, .gone, .cells [ci y_1.1.1.1, ci y_1.1.1.2, ci y_1.1.2.1.1, ci y_1.1.2.1.2, ci y_1.1.2.2.1, ci y_1.1.2.2.2] 43, .cells [ci y_1.1.1.1, ci y_1.1.1.2, ci y_1.1.2.1.1, ci y_1.1.2.1.2, ci y_1.1.2.2.1, ci y_1.1.2.2.2] 43, .row yy6 (s.1 ++ [y_1.1]) 2]⟩)))))))))))
 (KB 0 K KN (.exit 0) ⟨(D :: D :: D :: .v (.one (.ptr 0 0)) :: .v (.one (.ptr 5 0)) :: .v (.one (.ptr 7 0)) :: .v (.one (.ptr 8 0)) :: D :: .v (.one (.full 9)) :: D :: D :: D :: D :: D :: D :: D :: D :: D :: D :: D :: D :: D :: D :: D :: D :: D :: D :: D :: D :: D :: .v (.one (.full 6)) :: vi (((List.length x.2.1.2.2) : Nat) : Int) :: vi s.2 :: vb (decide (s.2 < (((List.length x.2.1.2.2) : Nat) : Int))) :: D :: D :: D :: D :: D :: D :: D :: D :: D :: D :: D :: D :: D :: D :: D :: D :: D :: D :: D :: D :: D :: D :: D :: D :: D :: D :: D :: D :: D :: D :: D :: D :: D :: D :: D :: D :: D :: D :: D :: D :: D :: D :: D :: D :: D :: D :: D :: D :: D :: D :: D :: D :: D :: D :: D :: D :: D :: D :: D :: D :: D :: D :: D :: D :: D :: D :: D :: D :: D :: D :: D :: D :: D :: D :: D :: D :: D :: D :: D :: []), [.cells [.full 1, .full 2, .full 3, .full 4] 26, .row yy3 x.1.1 0, .row yy2 x.1.2.1 0, .row yy3 x.1.2.2.1 0, .row yy9 x.1.2.2.2 0, .cells [ci x.2.1.1, ci x.2.1.2.1, .full 6] 29, .row yi x.2.1.2.2 0, .cells [ci x.2.2] 3, .cells [.raw (.slice none 0 0), .raw (.slice none 0 0), ci (0 : Int), ci (0 : Int)] 34, .row yy6 s.1 2]⟩)) := by kernel_rfl
theorem flay_l0_ok (x : (((List (Int × (Int × Int))) × ((List (Int × Int)) × ((List (Int × (Int × Int))) × (List ((Int × (Int × Int)) × ((Int × (Int × Int)) × (Int × (Int × Int)))))))) × ((Int × (Int × (List Int))) × Int))) : ∀ st K, flay_l0_sp x st K → Vc (codeE ⟨tt, sp_fis, noX, [], [], []⟩ (.loop (cI (blk 0 (bodyOf Try.f8)))) st (wrapB 0 (orWeak K))) := loopSp_okV fun s K KN hp hq => .eq (flay_l0_vc x s K KN) (have hp := Eq.mp (flay_l0_pre.eq_1 x s) hp; have hq := Eq.mp (congrArg (stepQ (flay_l0_tm x) (flay_l0_out x) K KN) (flay_l0_step.eq_1 x s)) hq;
 (cB_d (Q := (stepQ (flay_l0_tm x) (flay_l0_out x) K KN)) hq (fun c hq => have hp := (hp c); (ob_k (and_t (decide_eq_true hp.1.1) (decide_eq_true hp.1.2)) (have hp := hp.2; (ob_k (decide_eq_true hp.1) (have hp := hp.2; (ob_k (decide_eq_true hp.1) (have hp := hp.2; (And.intro hp.1 (let_k (Q := (stepQ (flay_l0_tm x) (flay_l0_out x) K KN)) hp.2 hq fun y hp hq => (cB_b (Q := (stepQ (flay_l0_tm x) (flay_l0_out x) K KN)) hq (fun c hq => (Exists.intro ⟨(D :: D :: D :: D :: D :: D :: .v (.one (.ptr 0 0)) :: vi (1 : Int) :: D :: D :: D :: D :: D :: D :: D :: D :: D :: D :: D :: D :: D :: D :: D :: D :: D :: D :: D :: D :: D :: D :: D :: D :: D :: D :: D :: D :: D :: D :: D :: D :: D :: D :: D :: D :: D :: D :: D :: D :: D :: D :: D :: D :: D :: D :: D :: D :: D :: D :: D :: D :: D :: D :: D :: D :: D :: D :: D :: D :: D :: D :: D :: D :: D :: D :: D :: D :: D :: D :: D :: D :: D :: D :: D :: D :: D :: D :: D :: D :: D :: D :: D :: D :: D :: D :: D :: D :: D :: D :: D :: D :: D :: D :: D :: D :: D :: D :: D :: D :: D :: D :: D :: D :: D :: []), [.cells [.raw (.slice none 0 0), .raw (.slice none 0 0), ci (0 : Int), ci (0 : Int)] 34]⟩ (And.intro (ren_ok (π := [.same 8]) (And.intro rfl (And.intro rfl trivial)) (And.intro (ren_same rfl rfl) trivial) rfl) hq))) (fun c hq => have hp := (hp c); (cB_b (Q := (stepQ (flay_l0_tm x) (flay_l0_out x) K KN)) hq (fun c hq => (Exists.intro ⟨(D :: D :: D :: D :: D :: D :: .v (.one (.ptr 0 0)) :: vi (1 : Int) :: D :: D :: D :: D :: D :: D :: D :: D :: D :: D :: D :: D :: D :: D :: D :: D :: D :: D :: D :: D :: D :: D :: D :: D :: D :: D :: D :: D :: D :: D :: D :: D :: D :: D :: D :: D :: D :: D :: D :: D :: D :: D :: D :: D :: D :: D :: D :: D :: D :: D :: D :: D :: D :: D :: D :: D :: D :: D :: D :: D :: D :: D :: D :: D :: D :: D :: D :: D :: D :: D :: D :: D :: D :: D :: D :: D :: D :: D :: D :: D :: D :: D :: D :: D :: D :: D :: D :: D :: D :: D :: D :: D :: D :: D :: D :: D :: D :: D :: D :: D :: D :: D :: D :: D :: D :: []), [.cells [.raw (.slice none 0 0), .raw (.slice none 0 0), ci (0 : Int), ci (0 : Int)] 34]⟩ (And.intro (ren_ok (π := [.same 8]) (And.intro rfl (And.intro rfl trivial)) (And.intro (ren_same rfl rfl) trivial) rfl) hq))) (fun c hq => have hp := (hp c); (cB_b (Q := (stepQ (flay_l0_tm x) (flay_l0_out x) K KN)) hq (fun c hq => (Exists.intro ⟨(D :: D :: D :: D :: D :: D :: .v (.one (.ptr 0 0)) :: vi (1 : Int) :: D :: D :: D :: D :: D :: D :: D :: D :: D :: D :: D :: D :: D :: D :: D :: D :: D :: D :: D :: D :: D :: D :: D :: D :: D :: D :: D :: D :: D :: D :: D :: D :: D :: D :: D :: D :: D :: D :: D :: D :: D :: D :: D :: D :: D :: D :: D :: D :: D :: D :: D :: D :: D :: D :: D :: D :: D :: D :: D :: D :: D :: D :: D :: D :: D :: D :: D :: D :: D :: D :: D :: D :: D :: D :: D :: D :: D :: D :: D :: D :: D :: D :: D :: D :: D :: D :: D :: D :: D :: D :: D :: D :: D :: D :: D :: D :: D :: D :: D :: D :: D :: D :: D :: D :: D :: []), [.cells [.raw (.slice none 0 0), .raw (.slice none 0 0), ci (0 : Int), ci (0 : Int)] 34]⟩ (And.intro (ren_ok (π := [.same 8]) (And.intro rfl (And.intro rfl trivial)) (And.intro (ren_same rfl rfl) trivial) rfl) hq))) (fun c hq => have hp := (hp c); (And.intro hp.1 (let_k (Q := (stepQ (flay_l0_tm x) (flay_l0_out x) K KN)) hp.2 hq fun y_1 hp hq => (cB_b (Q := (stepQ (flay_l0_tm x) (flay_l0_out x) K KN)) hq (fun c hq => (Exists.intro ⟨(D :: D :: D :: D :: D :: D :: .v (.one (.ptr 0 0)) :: vi y_1.2 :: D :: D :: D :: D :: D :: D :: D :: D :: D :: D :: D :: D :: D :: D :: D :: D :: D :: D :: D :: D :: D :: D :: D :: D :: D :: D :: D :: D :: D :: D :: D :: D :: D :: D :: D :: D :: D :: D :: D :: D :: D :: D :: D :: D :: D :: D :: D :: D :: D :: D :: D :: D :: D :: D :: D :: D :: D :: D :: D :: D :: D :: D :: D :: D :: D :: D :: D :: D :: D :: D :: D :: D :: D :: D :: D :: D :: D :: D :: D :: D :: D :: D :: D :: D :: D :: D :: D :: D :: D :: D :: D :: D :: D :: D :: D :: D :: D :: D :: D :: D :: D :: D :: D :: D :: D :: []), [.cells [.raw (.slice none 0 0), .raw (.slice none 0 0), ci (0 : Int), ci (0 : Int)] 34]⟩ (And.intro (ren_ok (π := [.same 8]) (And.intro rfl (And.intro rfl trivial)) (And.intro (ren_same rfl rfl) trivial) rfl) hq))) (fun c hq => have hp := (hp c); (ob_k (decide_eq_true hp) (Exists.intro (flay_l0_tm x ((s.1 ++ [y_1.1]), (w64 (s.2 + (1 : Int))))) (And.intro (ren_ok (π := [.same 0, .same 1, .same 2, .same 3, .same 4, .same 5, .same 6, .same 7, .same 8, .same 12]) (And.intro rfl (And.intro rfl (And.intro rfl (And.intro rfl (And.intro rfl (And.intro rfl (And.intro rfl (And.intro rfl trivial)))))))) (And.intro (ren_same rfl rfl) (And.intro (ren_same rfl rfl) (And.intro (ren_same rfl rfl) (And.intro (ren_same rfl rfl) (And.intro (ren_same rfl rfl) (And.intro (ren_same rfl rfl) (And.intro (ren_same rfl rfl) (And.intro (ren_same rfl rfl) (And.intro (ren_same rfl rfl) (And.intro (ren_same rfl rfl) trivial)))))))))) rfl) hq)))))))))))))))))))))) (fun c hq => (Exists.intro ⟨(D :: D :: D :: D :: .v (.one (.ptr 0 0)) :: .v (.one (.ptr 2 0)) :: .v (.one (.ptr 3 0)) :: D :: .v (.one (.full 4)) :: D :: D :: D :: D :: D :: D :: D :: D :: D :: D :: D :: D :: D :: D :: D :: D :: D :: D :: D :: D :: D :: D :: D :: D :: D :: D :: D :: D :: D :: D :: D :: D :: D :: D :: D :: D :: D :: D :: D :: D :: D :: D :: D :: D :: D :: D :: D :: D :: D :: D :: D :: D :: D :: D :: D :: D :: D :: D :: D :: D :: D :: D :: D :: D :: D :: D :: D :: D :: D :: D :: D :: D :: D :: D :: D :: D :: D :: D :: D :: D :: D :: D :: D :: D :: D :: D :: D :: D :: D :: D :: D :: D :: D :: D :: D :: D :: D :: D :: D :: D :: D :: D :: D :: D :: []), [.cells [ci x.2.1.1, ci x.2.1.2.1, .full 1] 29, .row yi x.2.1.2.2 0, .cells [ci x.2.2] 3, .cells [.raw (.slice none 0 0), .raw (.slice none 0 0), ci (0 : Int), ci (0 : Int)] 34, .row yy6 s.1 2]⟩ (And.intro (ren_ok (π := [.same 5, .same 6, .same 7, .same 8, .same 9]) (And.intro rfl (And.intro rfl (And.intro rfl (And.intro rfl trivial)))) (And.intro (ren_same rfl rfl) (And.intro (ren_same rfl rfl) (And.intro (ren_same rfl rfl) (And.intro (ren_same rfl rfl) (And.intro (ren_same rfl rfl) trivial))))) rfl) hq)))))
noncomputable def flay (x : (((List (Int × (Int × Int))) × ((List (Int × Int)) × ((List (Int × (Int × Int))) × (List ((Int × (Int × Int)) × ((Int × (Int × Int)) × (Int × (Int × Int)))))))) × ((Int × (Int × (List Int))) × Int))) : (((List Int) × ((List ((Int × Int) × ((Int × Int) × (Int × Int)))) × (Int × Int))) × Int) :=
 (if (x.2.2 < (1 : Int)) then
 (([], ([], ((0 : Int), (0 : Int)))), (1 : Int)) else
 (if (x.2.2 > (64 : Int)) then
 (([], ([], ((0 : Int), (0 : Int)))), (1 : Int)) else
 (letV (run (flay_l0_step x) ([], (0 : Int))) fun r =>
 (Sum.elim (fun a =>
 (([], ([], ((0 : Int), (0 : Int)))), a)) (fun b =>
 (letV (fbox b) fun y =>
 (if ((y.2.2 != (0 : Int)) = true) then
 (([], ([], ((0 : Int), (0 : Int)))), (1 : Int)) else
 (letV (layc (y.2.1, (y.1, x.2.2))) fun y_1 =>
 (if ((maxI y_1.1 y_1.2) > (4096 : Int)) then
 (([], ([], ((0 : Int), (0 : Int)))), (2 : Int)) else
 (letV (turnedL (b, (y.1, x.2.2))) fun y_2 =>
 (letV (fapart y_2) fun y_3 =>
 (if ((!y_3) = true) then
 (([], ([], ((0 : Int), (0 : Int)))), (1 : Int)) else
 (letV (fsizes y_1) fun y_4 =>
 (letV (cloneI x.2.1.2.2) fun y_5 =>
 ((y_5, (y_2, y_4)), (0 : Int)))))))))))) r))))
noncomputable def flay_pre (x : (((List (Int × (Int × Int))) × ((List (Int × Int)) × ((List (Int × (Int × Int))) × (List ((Int × (Int × Int)) × ((Int × (Int × Int)) × (Int × (Int × Int)))))))) × ((Int × (Int × (List Int))) × Int))) : Prop :=
 (¬ (x.2.2 < (1 : Int)) →
 (¬ (x.2.2 > (64 : Int)) →
 (Term (flay_l0_step x) (flay_l0_pre x) ([], (0 : Int)) ∧
 letP (run (flay_l0_step x) ([], (0 : Int))) fun r =>
 (cS r (fun a =>
 True) (fun b =>
 ((fbox_pre b) ∧
 letP (fbox b) fun y =>
 (¬ ((y.2.2 != (0 : Int)) = true) →
 (letP (layc (y.2.1, (y.1, x.2.2))) fun y_1 =>
 (¬ ((maxI y_1.1 y_1.2) > (4096 : Int)) →
 ((turnedL_pre (b, (y.1, x.2.2))) ∧
 letP (turnedL (b, (y.1, x.2.2))) fun y_2 =>
 ((fapart_pre y_2) ∧
 letP (fapart y_2) fun y_3 =>
 (¬ ((!y_3) = true) →
 (letP (fsizes y_1) fun y_4 =>
 (cloneI_pre x.2.1.2.2))))))))))))))
theorem flay_vc (x : (((List (Int × (Int × Int))) × ((List (Int × Int)) × ((List (Int × (Int × Int))) × (List ((Int × (Int × Int)) × ((Int × (Int × Int)) × (Int × (Int × Int)))))))) × ((Int × (Int × (List Int))) × Int))) (Q : (((List Int) × ((List ((Int × Int) × ((Int × Int) × (Int × Int)))) × (Int × Int))) × Int) → Prop) : fnE ⟨tt, sp_fis, noX, [(0, flay_l0_sp x)], [], []⟩ Try.f8 (argsE (.pair (.agg (Ty.prod (Ty.sl yy3) (Ty.prod (Ty.sl yy2) (Ty.prod (Ty.sl yy3) (Ty.sl yy9))))) (.pair (.agg (Ty.prod yi (Ty.prod yi (Ty.sl yi)))) (.one yi))) x) (heapE (.pair (.agg (Ty.prod (Ty.sl yy3) (Ty.prod (Ty.sl yy2) (Ty.prod (Ty.sl yy3) (Ty.sl yy9))))) (.pair (.agg (Ty.prod yi (Ty.prod yi (Ty.sl yi)))) (.one yi))) x) (retE (.pair (.agg (Ty.prod (Ty.sl yi) (Ty.prod (Ty.sl yy6) yy2))) (.one yi)) Q) =
 (cB (decide (x.2.2 < (1 : Int)))
 (Q (([], ([], zz2)), (1 : Int)))
 (cB (decide (x.2.2 > (64 : Int)))
 (Q (([], ([], zz2)), (1 : Int)))
 (Exists fun s0 : ((List ((Int × Int) × ((Int × Int) × (Int × Int)))) × Int) => Weak ⟨(.v (.agg [.full 0, .full 1, .full 2, .full 3]) :: .v (.agg [ci x.2.1.1, ci x.2.1.2.1, .full 4]) :: vi x.2.2 :: .v (.one (.ptr 5 0)) :: .v (.one (.ptr 6 0)) :: .v (.one (.ptr 7 0)) :: .v (.one (.ptr 8 0)) :: vi (0 : Int) :: .v (.one (.raw (.slice none 0 0))) :: und :: und :: und :: und :: und :: und :: und :: und :: und :: und :: und :: und :: und :: vi x.2.2 :: vb (decide (x.2.2 < (1 : Int))) :: vb false :: vi x.2.2 :: vb (decide (x.2.2 > (64 : Int))) :: vb (decide (x.2.2 > (64 : Int))) :: und :: .v (.one (.ptr 6 2)) :: .v (.one (.full 4)) :: vi (((List.length x.2.1.2.2) : Nat) : Int) :: vi (0 : Int) :: und :: und :: und :: und :: und :: und :: und :: und :: und :: und :: und :: und :: und :: und :: und :: und :: und :: und :: und :: und :: und :: und :: und :: und :: und :: und :: und :: und :: und :: und :: und :: und :: und :: und :: und :: und :: und :: und :: und :: und :: und :: und :: und :: und :: und :: und :: und :: und :: und :: und :: und :: und :: und :: und :: und :: und :: und :: und :: und :: und :: und :: und :: und :: und :: und :: und :: und :: und :: und :: und :: und :: und :: und :: und :: und :: und :: und :: und :: und :: und :: []), [.row yy3 x.1.1 0, .row yy2 x.1.2.1 0, .row yy3 x.1.2.2.1 0, .row yy9 x.1.2.2.2 0, .row yi x.2.1.2.2 0, .cells [.full 0, .full 1, .full 2, .full 3] 26, .cells [ci x.2.1.1, ci x.2.1.2.1, .full 4] 29, .cells [ci x.2.2] 3, .cells [.raw (.slice none 0 0), .raw (.slice none 0 0), ci (0 : Int), ci (0 : Int)] 34]⟩ (flay_l0_tm x s0) ∧ Term (flay_l0_step x) (flay_l0_pre x) s0 ∧ ∀ r : (Int ⊕ (List ((Int × Int) × ((Int × Int) × (Int × Int))))), r = run (flay_l0_step x) s0 →
 (cS r (fun a =>
 (Q (([], ([], zz2)), a))) (fun b =>
 ((fbox_pre b) ∧ ∀ y : ((Int × Int) × ((Int × Int) × Int)), y = (fbox b) →
 (cB (y.2.2 != (0 : Int))
 (Q (([], ([], zz2)), (1 : Int)))
 ((layc_pre (y.2.1, (y.1, x.2.2))) ∧ ∀ y_1 : (Int × Int), y_1 = (layc (y.2.1, (y.1, x.2.2))) →
 (cB (decide ((maxI y_1.1 y_1.2) > (4096 : Int)))
 (Q (([], ([], zz2)), (2 : Int)))
 ((turnedL_pre (b, (y.1, x.2.2))) ∧ ∀ y_2 : (List ((Int × Int) × ((Int × Int) × (Int × Int)))), y_2 = (turnedL (b, (y.1, x.2.2))) →
 ((fapart_pre y_2) ∧ ∀ y_3 : Bool, y_3 = (fapart y_2) →
 (cB (!y_3)
 (Q (([], ([], zz2)), (1 : Int)))
 ((fsizes_pre y_1) ∧ ∀ y_4 : (Int × Int), y_4 = (fsizes y_1) →
 ((cloneI_pre x.2.1.2.2) ∧ ∀ y_5 : (List Int), y_5 = (cloneI x.2.1.2.2) →
 (Q ((y_5, (y_2, y_4)), (0 : Int))))))))))))))))) := by kernel_rfl
theorem flay_fn (x : (((List (Int × (Int × Int))) × ((List (Int × Int)) × ((List (Int × (Int × Int))) × (List ((Int × (Int × Int)) × ((Int × (Int × Int)) × (Int × (Int × Int)))))))) × ((Int × (Int × (List Int))) × Int))) (Q : (((List Int) × ((List ((Int × Int) × ((Int × Int) × (Int × Int)))) × (Int × Int))) × Int) → Prop) (hp : flay_pre x) (hq : Q (flay x)) : Vc (fnE ⟨tt, sp_fis, noX, [(0, flay_l0_sp x)], [], []⟩ Try.f8 (argsE (.pair (.agg (Ty.prod (Ty.sl yy3) (Ty.prod (Ty.sl yy2) (Ty.prod (Ty.sl yy3) (Ty.sl yy9))))) (.pair (.agg (Ty.prod yi (Ty.prod yi (Ty.sl yi)))) (.one yi))) x) (heapE (.pair (.agg (Ty.prod (Ty.sl yy3) (Ty.prod (Ty.sl yy2) (Ty.prod (Ty.sl yy3) (Ty.sl yy9))))) (.pair (.agg (Ty.prod yi (Ty.prod yi (Ty.sl yi)))) (.one yi))) x) (retE (.pair (.agg (Ty.prod (Ty.sl yi) (Ty.prod (Ty.sl yy6) yy2))) (.one yi)) Q)) := .eq (flay_vc x Q) (have hp := Eq.mp (flay_pre.eq_1 x) hp; have hq := Eq.mp (congrArg Q (flay.eq_1 x)) hq;
 (cB_d (Q := Q) hq (fun c hq => hq) (fun c hq => have hp := (hp c); (cB_d (Q := Q) hq (fun c hq => hq) (fun c hq => have hp := (hp c); (Exists.intro ([], (0 : Int)) (And.intro (ren_ok (π := [.same 5, .same 0, .same 1, .same 2, .same 3, .same 6, .same 4, .same 7, .same 8, .nil]) (And.intro rfl (And.intro rfl (And.intro rfl (And.intro rfl (And.intro rfl (And.intro rfl (And.intro rfl (And.intro rfl trivial)))))))) (And.intro (ren_same rfl rfl) (And.intro (ren_same rfl rfl) (And.intro (ren_same rfl rfl) (And.intro (ren_same rfl rfl) (And.intro (ren_same rfl rfl) (And.intro (ren_same rfl rfl) (And.intro (ren_same rfl rfl) (And.intro (ren_same rfl rfl) (And.intro (ren_same rfl rfl) (And.intro ren_nil trivial)))))))))) rfl) (And.intro hp.1 (let_k (Q := Q) hp.2 hq fun r hp hq => (cS_k (Q := Q) hp hq (fun a hp hq => hq) (fun b hp hq => (And.intro hp.1 (let_k (Q := Q) hp.2 hq fun y hp hq => (cB_b (Q := Q) hq (fun c hq => hq) (fun c hq => have hp := (hp c); (And.intro trivial (let_k (Q := Q) hp hq fun y_1 hp hq => (cB_d (Q := Q) hq (fun c hq => hq) (fun c hq => have hp := (hp c); (And.intro hp.1 (let_k (Q := Q) hp.2 hq fun y_2 hp hq => (And.intro hp.1 (let_k (Q := Q) hp.2 hq fun y_3 hp hq => (cB_b (Q := Q) hq (fun c hq => hq) (fun c hq => have hp := (hp c); (And.intro trivial (let_k (Q := Q) hp hq fun y_4 hp hq => (And.intro hp (let_0 (Q := Q) hq fun y_5 hq => hq)))))))))))))))))))))))))))))
noncomputable def flay_S : FnS := ⟨(.pair (.agg (Ty.prod (Ty.sl yy3) (Ty.prod (Ty.sl yy2) (Ty.prod (Ty.sl yy3) (Ty.sl yy9))))) (.pair (.agg (Ty.prod yi (Ty.prod yi (Ty.sl yi)))) (.one yi))), (.pair (.agg (Ty.prod (Ty.sl yi) (Ty.prod (Ty.sl yy6) yy2))) (.one yi)), flay_pre, flay⟩
theorem flay_ok : SpecOk Try.prog 8 (fnSpec flay_S) := SpecOk.fnT' (fn := Try.f8) tt_ok sp_fis_ok mixed (by kernel_rfl) (by kernel_rfl) (.pair (.agg (Ty.prod (Ty.sl yy3) (Ty.prod (Ty.sl yy2) (Ty.prod (Ty.sl yy3) (Ty.sl yy9))))) (.pair (.agg (Ty.prod yi (Ty.prod yi (Ty.sl yi)))) (.one yi))) (.pair (.agg (Ty.prod (Ty.sl yi) (Ty.prod (Ty.sl yy6) yy2))) (.one yi)) flay_pre flay (by kernel_rfl) fun x hp => ⟨_, _, (ItsOk.nil _ _), (LpsOk.consV tt_ok (SpecsOk.ctxI sp_fis_ok (ItsOk.nil _ _)) mixed LpsOk.nil (by kernel_rfl) (by kernel_rfl) (flay_l0_ok x)), flay_fn x (fun y => y = flay x) hp rfl⟩
def sp_flay : List (Nat × Ev.Spec) := (8, fnSpec flay_S) :: sp_fis
theorem sp_flay_ok : SpecsOk Try.prog sp_flay := SpecsOk.cons (Enters.of (fn := Try.f8) (by kernel_rfl) (by kernel_rfl) (by kernel_rfl)) flay_ok sp_fis_ok
noncomputable def fmove (x : (((List Int) × ((List ((Int × Int) × ((Int × Int) × (Int × Int)))) × (Int × Int))) × (Int × Int))) : ((List ((Int × Int) × ((Int × Int) × (Int × Int)))) × Int) :=
 (letV (fis x.1) fun y =>
 (if ((!y) = true) then
 ([], (1 : Int)) else
 (if ((minI x.2.1 x.2.2) < (0 : Int)) then
 ([], (5 : Int)) else
 (if ((maxI x.2.1 x.2.2) > (65536 : Int)) then
 ([], (5 : Int)) else
 (letV (turnedM (x.1.2.1, x.2)) fun y_1 =>
 (y_1, (0 : Int)))))))
noncomputable def fmove_pre (x : (((List Int) × ((List ((Int × Int) × ((Int × Int) × (Int × Int)))) × (Int × Int))) × (Int × Int))) : Prop :=
 ((fis_pre x.1) ∧
 letP (fis x.1) fun y =>
 (¬ ((!y) = true) →
 (¬ ((minI x.2.1 x.2.2) < (0 : Int)) →
 (¬ ((maxI x.2.1 x.2.2) > (65536 : Int)) →
 (turnedM_pre (x.1.2.1, x.2))))))
theorem fmove_vc (x : (((List Int) × ((List ((Int × Int) × ((Int × Int) × (Int × Int)))) × (Int × Int))) × (Int × Int))) (Q : ((List ((Int × Int) × ((Int × Int) × (Int × Int)))) × Int) → Prop) : fnE ⟨tt, sp_flay, noX, [], [], []⟩ Try.f15 (argsE (.pair (.agg (Ty.prod (Ty.sl yi) (Ty.prod (Ty.sl yy6) yy2))) (.agg yy2)) x) (heapE (.pair (.agg (Ty.prod (Ty.sl yi) (Ty.prod (Ty.sl yy6) yy2))) (.agg yy2)) x) (retE (.pair (.one (Ty.sl yy6)) (.one yi)) Q) =
 ((fis_pre x.1) ∧ ∀ y : Bool, y = (fis x.1) →
 (cB (!y)
 (Q ([], (1 : Int)))
 (cB (decide ((minI x.2.1 x.2.2) < (0 : Int)))
 (Q ([], (5 : Int)))
 (cB (decide ((maxI x.2.1 x.2.2) > (65536 : Int)))
 (Q ([], (5 : Int)))
 ((turnedM_pre (x.1.2.1, x.2)) ∧ ∀ y_1 : (List ((Int × Int) × ((Int × Int) × (Int × Int)))), y_1 = (turnedM (x.1.2.1, x.2)) →
 (Q (y_1, (0 : Int)))))))) := by kernel_rfl
theorem fmove_fn (x : (((List Int) × ((List ((Int × Int) × ((Int × Int) × (Int × Int)))) × (Int × Int))) × (Int × Int))) (Q : ((List ((Int × Int) × ((Int × Int) × (Int × Int)))) × Int) → Prop) (hp : fmove_pre x) (hq : Q (fmove x)) : Vc (fnE ⟨tt, sp_flay, noX, [], [], []⟩ Try.f15 (argsE (.pair (.agg (Ty.prod (Ty.sl yi) (Ty.prod (Ty.sl yy6) yy2))) (.agg yy2)) x) (heapE (.pair (.agg (Ty.prod (Ty.sl yi) (Ty.prod (Ty.sl yy6) yy2))) (.agg yy2)) x) (retE (.pair (.one (Ty.sl yy6)) (.one yi)) Q)) := .eq (fmove_vc x Q) (have hp := Eq.mp (fmove_pre.eq_1 x) hp; have hq := Eq.mp (congrArg Q (fmove.eq_1 x)) hq;
 (And.intro hp.1 (let_k (Q := Q) hp.2 hq fun y hp hq => (cB_b (Q := Q) hq (fun c hq => hq) (fun c hq => have hp := (hp c); (cB_d (Q := Q) hq (fun c hq => hq) (fun c hq => have hp := (hp c); (cB_d (Q := Q) hq (fun c hq => hq) (fun c hq => have hp := (hp c); (And.intro hp (let_0 (Q := Q) hq fun y_1 hq => hq)))))))))))
noncomputable def fmove_S : FnS := ⟨(.pair (.agg (Ty.prod (Ty.sl yi) (Ty.prod (Ty.sl yy6) yy2))) (.agg yy2)), (.pair (.one (Ty.sl yy6)) (.one yi)), fmove_pre, fmove⟩
theorem fmove_ok : SpecOk Try.prog 15 (fnSpec fmove_S) := SpecOk.fnT' (fn := Try.f15) tt_ok sp_flay_ok mixed (by kernel_rfl) (by kernel_rfl) (.pair (.agg (Ty.prod (Ty.sl yi) (Ty.prod (Ty.sl yy6) yy2))) (.agg yy2)) (.pair (.one (Ty.sl yy6)) (.one yi)) fmove_pre fmove (by kernel_rfl) fun x hp => ⟨_, _, (ItsOk.nil _ _), LpsOk.nil, fmove_fn x (fun y => y = fmove x) hp rfl⟩
def sp_fmove : List (Nat × Ev.Spec) := (15, fnSpec fmove_S) :: sp_flay
theorem sp_fmove_ok : SpecsOk Try.prog sp_fmove := SpecsOk.cons (Enters.of (fn := Try.f15) (by kernel_rfl) (by kernel_rfl) (by kernel_rfl)) fmove_ok sp_flay_ok
end Go.Proofs.Ytpbbnoggkbfkoaa
