/- Model of the law AtlasRight. -/
import Derived.Test.YtbjfokijjefoeaaAm
namespace Go.Proofs.Ytbjfokijjefoeaa
open Go Go.Ev Go.Proofs
set_option linter.unusedVariables false
noncomputable def r16big (x : ((List Int) × ((List I6) × I2))) : Bool :=
 (if ((((List.length x.1) : Nat) : Int) > (15 : Int)) then
 true else
 (decide ((((List.length x.2.1) : Nat) : Int) > (15 : Int))))
noncomputable def r16big_pre (_ : ((List Int) × ((List I6) × I2))) : Prop := True
noncomputable def r16big_t (x : ((List Int) × ((List I6) × I2))) : Tr Bool false :=
 (.i00 ((((List.length x.1) : Nat) : Int) > (15 : Int))
 (.ret true)
 (.ret (decide ((((List.length x.2.1) : Nat) : Int) > (15 : Int)))))
noncomputable abbrev r16big_S : FnS := ⟨(.agg (Ty.prod (Ty.sl yi) (Ty.prod (Ty.sl yy6) yy2))), (.one Ty.bool), r16big_pre, r16big⟩
theorem r16big_ok : SpecOk Try.prog 15 (fnSpec r16big_S) := SpecOk.tr r16big_S r16big_t (fn := Try.f15) tt_ok sp_mappedL_ok mixed (by kernel_rfl) (ItsOk.nil _ _) (fun x => LpsOk.nil) (fun x => (by kernel_rfl)) fun x Q => (by kernel_rfl)
def sp_r16big : List (Nat × Ev.Spec) := (15, fnSpec r16big_S) :: sp_mappedL
theorem sp_r16big_ok : SpecsOk Try.prog sp_r16big := SpecsOk.add (fn := Try.f15) (by kernel_rfl) r16big_ok sp_mappedL_ok
noncomputable def r18big_l0 (x : (List ((List Int) × ((List I6) × I2)))) : LoopD := ⟨[], ⟨pvs 36 0 [(0, .v (.one (.full 0))), (3, .v (.one (.i .i64))), (4, .v (.one (.i .i64)))], [.row (Ty.prod (Ty.sl yi) (Ty.prod (Ty.sl yy6) yy2)) 0], 0, none, [], [2], [0, 1], [.i, .i], [.l (Ty.prod (Ty.sl yi) (Ty.prod (Ty.sl yy6) yy2)) x]⟩, [⟨.ret, .ret, ⟨pvs 36 0 [(2, .v (.one (.b)))], [], 0, none, [], [0], [], [], [.b true]⟩⟩, ⟨(.exit 0), .normal, ⟨pvs 36 0 [(0, .v (.one (.full 0))), (3, .v (.one (.i .i64)))], [.row (Ty.prod (Ty.sl yi) (Ty.prod (Ty.sl yy6) yy2)) 0], 0, none, [], [1], [0], [.i], [.l (Ty.prod (Ty.sl yi) (Ty.prod (Ty.sl yy6) yy2)) x]⟩⟩]⟩
noncomputable def r18big_l0_step (x : (List ((List Int) × ((List I6) × I2)))) (s : I2) : I2 ⊕ (Unit ⊕ Int) :=
 (if (s.2 < (((List.length x) : Nat) : Int)) then
 (if ((((List.length x) : Nat) : Int) ≤ (12 : Int)) then
 (letV (r16big (List.getD x (Int.toNat s.2) ([], ([], ((0 : Int), (0 : Int)))))) fun y =>
 (if (y = true) then
 (Sum.inr (Sum.inl ())) else
 (Sum.inl ((w64 (s.1 + (((List.length (List.getD x (Int.toNat s.2) ([], ([], ((0 : Int), (0 : Int))))).2.1) : Nat) : Int))), (w64 (s.2 + (1 : Int))))))) else
 (Sum.inr (Sum.inr (s.1)))) else
 (Sum.inr (Sum.inr (s.1))))
noncomputable def r18big_l0_pre (x : (List ((List Int) × ((List I6) × I2)))) (s : I2) : Prop :=
 ((s.2 < (((List.length x) : Nat) : Int)) →
 (((((List.length x) : Nat) : Int) ≤ (12 : Int)) →
 ((((0 : Int) ≤ s.2) ∧ (s.2 < (((List.length x) : Nat) : Int))) ∧
 (((Int.toNat s.2) < (List.length x)) ∧
 (((Int.toNat s.2) < (List.length x)) ∧
 (letP (r16big (List.getD x (Int.toNat s.2) ([], ([], ((0 : Int), (0 : Int)))))) fun y =>
 (¬ (y = true) →
 ((((0 : Int) ≤ s.2) ∧ (s.2 < (((List.length x) : Nat) : Int))) ∧
 (((Int.toNat s.2) < (List.length x)) ∧
 (((Int.toNat s.2) < (List.length x)) ∧
 ((Int.toNat s.2) < (List.length x))))))))))))
noncomputable def r18big_l0_t (x : (List ((List Int) × ((List I6) × I2)))) (s : I2) : Tr (I2 ⊕ (Unit ⊕ Int)) true :=
 (.i10 (s.2 < (((List.length x) : Nat) : Int))
 (.i10 ((((List.length x) : Nat) : Int) ≤ (12 : Int))
 (.oR s.2 (((List.length x) : Nat) : Int)
 (.od ((Int.toNat s.2) < (List.length x))
 (.od ((Int.toNat s.2) < (List.length x))
 (.fn0 r16big_S (List.getD x (Int.toNat s.2) ([], ([], zz2))) trivial fun y =>
 (.b01 y
 (.ret (.inr (Sum.inl ())))
 (.oR s.2 (((List.length x) : Nat) : Int)
 (.od ((Int.toNat s.2) < (List.length x))
 (.od ((Int.toNat s.2) < (List.length x))
 (.od ((Int.toNat s.2) < (List.length x))
 (.ret (.inl ((w64 (s.1 + (((List.length (List.getD x (Int.toNat s.2) ([], ([], zz2))).2.1) : Nat) : Int))), (w64 (s.2 + (1 : Int)))))))))))))))
 (.ret (.inr (Sum.inr (s.1)))))
 (.ret (.inr (Sum.inr (s.1)))))
noncomputable def r18big (x : (List ((List Int) × ((List I6) × I2)))) : Bool :=
 (letV (run (r18big_l0_step x) ((0 : Int), (0 : Int))) fun r =>
 (Sum.elim (fun a =>
 true) (fun b =>
 (if ((((List.length x) : Nat) : Int) > (12 : Int)) then
 true else
 (decide (b > (30 : Int))))) r))
noncomputable def r18big_pre (x : (List ((List Int) × ((List I6) × I2)))) : Prop :=
 (Term (r18big_l0_step x) (r18big_l0_pre x) ((0 : Int), (0 : Int)))
noncomputable def r18big_t (x : (List ((List Int) × ((List I6) × I2)))) : Tr Bool true :=
 (LoopD.lp (r18big_l0 x) (r18big_l0_t x) zz2 fun r =>
 (.s00 r (fun a =>
 (.ret true)) (fun b =>
 (.i00 ((((List.length x) : Nat) : Int) > (12 : Int))
 (.ret true)
 (.ret (decide (b > (30 : Int))))))))
noncomputable abbrev r18big_S : FnS := ⟨(.one (Ty.sl (Ty.prod (Ty.sl yi) (Ty.prod (Ty.sl yy6) yy2)))), (.one Ty.bool), r18big_pre, r18big⟩
theorem r18big_ok : SpecOk Try.prog 7 (fnSpec r18big_S) := SpecOk.tr r18big_S r18big_t (fn := Try.f7) tt_ok sp_r16big_ok mixed (by kernel_rfl) (ItsOk.nil _ _) (fun x => (LpsOk.tr tt_ok (SpecsOk.ctxI sp_r16big_ok (ItsOk.nil _ _)) mixed 0 (r18big_l0 x) (r18big_l0_t x) LpsOk.nil (by kernel_rfl) fun g s Q => (by kernel_rfl))) (fun x => (by kernel_rfl)) fun x Q => (by kernel_rfl)
def sp_r18big : List (Nat × Ev.Spec) := (7, fnSpec r18big_S) :: sp_r16big
theorem sp_r18big_ok : SpecsOk Try.prog sp_r18big := SpecsOk.add (fn := Try.f7) (by kernel_rfl) r18big_ok sp_r16big_ok
noncomputable def r16sametris_l0 (x : ((List I6) × (List I6))) : LoopD := ⟨[], ⟨pvs 26 0 [(0, .v (.one (.full 0))), (1, .v (.one (.full 1))), (5, .v (.one (.i .i64)))], [.row yy6 0, .row yy6 0], 0, none, [], [1, 2], [0], [.i], [.l yy6 x.1, .l yy6 x.2]⟩, [⟨.ret, .ret, ⟨pvs 26 0 [(4, .v (.one (.b)))], [], 0, none, [], [0], [], [], [.b false]⟩⟩, ⟨(.exit 0), .normal, ⟨pvs 26 0 [], [], 0, none, [], [], [], [], []⟩⟩]⟩
noncomputable def r16sametris_l0_step (x : ((List I6) × (List I6))) (s : Int) : Int ⊕ (Unit ⊕ Unit) :=
 (if (s < (((List.length x.1) : Nat) : Int)) then
 (if ((!((((List.getD x.1 (Int.toNat s) (((0 : Int), (0 : Int)), (((0 : Int), (0 : Int)), ((0 : Int), (0 : Int))))).1.1 == (List.getD x.2 (Int.toNat s) (((0 : Int), (0 : Int)), (((0 : Int), (0 : Int)), ((0 : Int), (0 : Int))))).1.1) && (((List.getD x.1 (Int.toNat s) (((0 : Int), (0 : Int)), (((0 : Int), (0 : Int)), ((0 : Int), (0 : Int))))).1.2 == (List.getD x.2 (Int.toNat s) (((0 : Int), (0 : Int)), (((0 : Int), (0 : Int)), ((0 : Int), (0 : Int))))).1.2) && true)) && ((((List.getD x.1 (Int.toNat s) (((0 : Int), (0 : Int)), (((0 : Int), (0 : Int)), ((0 : Int), (0 : Int))))).2.1.1 == (List.getD x.2 (Int.toNat s) (((0 : Int), (0 : Int)), (((0 : Int), (0 : Int)), ((0 : Int), (0 : Int))))).2.1.1) && (((List.getD x.1 (Int.toNat s) (((0 : Int), (0 : Int)), (((0 : Int), (0 : Int)), ((0 : Int), (0 : Int))))).2.1.2 == (List.getD x.2 (Int.toNat s) (((0 : Int), (0 : Int)), (((0 : Int), (0 : Int)), ((0 : Int), (0 : Int))))).2.1.2) && true)) && ((((List.getD x.1 (Int.toNat s) (((0 : Int), (0 : Int)), (((0 : Int), (0 : Int)), ((0 : Int), (0 : Int))))).2.2.1 == (List.getD x.2 (Int.toNat s) (((0 : Int), (0 : Int)), (((0 : Int), (0 : Int)), ((0 : Int), (0 : Int))))).2.2.1) && (((List.getD x.1 (Int.toNat s) (((0 : Int), (0 : Int)), (((0 : Int), (0 : Int)), ((0 : Int), (0 : Int))))).2.2.2 == (List.getD x.2 (Int.toNat s) (((0 : Int), (0 : Int)), (((0 : Int), (0 : Int)), ((0 : Int), (0 : Int))))).2.2.2) && true)) && true)))) = true) then
 (Sum.inr (Sum.inl ())) else
 (Sum.inl (w64 (s + (1 : Int))))) else
 (Sum.inr (Sum.inr (()))))
noncomputable def r16sametris_l0_pre (x : ((List I6) × (List I6))) (s : Int) : Prop :=
 ((s < (((List.length x.1) : Nat) : Int)) →
 ((((0 : Int) ≤ s) ∧ (s < (((List.length x.1) : Nat) : Int))) ∧
 (((Int.toNat s) < (List.length x.1)) ∧
 (((Int.toNat s) < (List.length x.1)) ∧
 ((((0 : Int) ≤ s) ∧ (s < (((List.length x.2) : Nat) : Int))) ∧
 (((Int.toNat s) < (List.length x.2)) ∧
 ((Int.toNat s) < (List.length x.2))))))))
noncomputable def r16sametris_l0_t (x : ((List I6) × (List I6))) (s : Int) : Tr (Int ⊕ (Unit ⊕ Unit)) true :=
 (.i10 (s < (((List.length x.1) : Nat) : Int))
 (.oR s (((List.length x.1) : Nat) : Int)
 (.od ((Int.toNat s) < (List.length x.1))
 (.od ((Int.toNat s) < (List.length x.1))
 (.oR s (((List.length x.2) : Nat) : Int)
 (.od ((Int.toNat s) < (List.length x.2))
 (.od ((Int.toNat s) < (List.length x.2))
 (.b00 (!((((List.getD x.1 (Int.toNat s) zz6).1.1 == (List.getD x.2 (Int.toNat s) zz6).1.1) && (((List.getD x.1 (Int.toNat s) zz6).1.2 == (List.getD x.2 (Int.toNat s) zz6).1.2) && true)) && ((((List.getD x.1 (Int.toNat s) zz6).2.1.1 == (List.getD x.2 (Int.toNat s) zz6).2.1.1) && (((List.getD x.1 (Int.toNat s) zz6).2.1.2 == (List.getD x.2 (Int.toNat s) zz6).2.1.2) && true)) && ((((List.getD x.1 (Int.toNat s) zz6).2.2.1 == (List.getD x.2 (Int.toNat s) zz6).2.2.1) && (((List.getD x.1 (Int.toNat s) zz6).2.2.2 == (List.getD x.2 (Int.toNat s) zz6).2.2.2) && true)) && true))))
 (.ret (.inr (Sum.inl ())))
 (.ret (.inl (w64 (s + (1 : Int))))))))))))
 (.ret (.inr (Sum.inr (())))))
noncomputable def r16sametris (x : ((List I6) × (List I6))) : Bool :=
 (if (((((List.length x.1) : Nat) : Int) != (((List.length x.2) : Nat) : Int)) = true) then
 false else
 (letV (run (r16sametris_l0_step x) (0 : Int)) fun r =>
 (Sum.elim (fun a =>
 false) (fun b =>
 true) r)))
noncomputable def r16sametris_pre (x : ((List I6) × (List I6))) : Prop :=
 (¬ (((((List.length x.1) : Nat) : Int) != (((List.length x.2) : Nat) : Int)) = true) →
 (Term (r16sametris_l0_step x) (r16sametris_l0_pre x) (0 : Int)))
noncomputable def r16sametris_t (x : ((List I6) × (List I6))) : Tr Bool true :=
 (.b01 ((((List.length x.1) : Nat) : Int) != (((List.length x.2) : Nat) : Int))
 (.ret false)
 (LoopD.lp (r16sametris_l0 x) (r16sametris_l0_t x) (0 : Int) fun r =>
 (.s00 r (fun a =>
 (.ret false)) (fun b =>
 (.ret true)))))
noncomputable abbrev r16sametris_S : FnS := ⟨(.pair (.one (Ty.sl yy6)) (.one (Ty.sl yy6))), (.one Ty.bool), r16sametris_pre, r16sametris⟩
theorem r16sametris_ok : SpecOk Try.prog 25 (fnSpec r16sametris_S) := SpecOk.tr r16sametris_S r16sametris_t (fn := Try.f25) tt_ok sp_r18big_ok mixed (by kernel_rfl) (ItsOk.nil _ _) (fun x => (LpsOk.tr tt_ok (SpecsOk.ctxI sp_r18big_ok (ItsOk.nil _ _)) mixed 0 (r16sametris_l0 x) (r16sametris_l0_t x) LpsOk.nil (by kernel_rfl) fun g s Q => (by kernel_rfl))) (fun x => (by kernel_rfl)) fun x Q => (by kernel_rfl)
def sp_r16sametris : List (Nat × Ev.Spec) := (25, fnSpec r16sametris_S) :: sp_r18big
theorem sp_r16sametris_ok : SpecsOk Try.prog sp_r16sametris := SpecsOk.add (fn := Try.f25) (by kernel_rfl) r16sametris_ok sp_r18big_ok
noncomputable def r16same (x : (((List Int) × ((List I6) × I2)) × ((List Int) × ((List I6) × I2)))) : Bool :=
 (if ((x.1.2.2.1 == x.2.2.2.1) = true) then
 (if ((x.1.2.2.2 == x.2.2.2.2) = true) then
 (letV (r1same (x.1.1, x.2.1)) fun y =>
 (if (y = true) then
 (letV (r16sametris (x.1.2.1, x.2.2.1)) fun y_1 =>
 y_1) else
 false)) else
 false) else
 false)
noncomputable def r16same_pre (x : (((List Int) × ((List I6) × I2)) × ((List Int) × ((List I6) × I2)))) : Prop :=
 (((x.1.2.2.1 == x.2.2.2.1) = true) →
 (((x.1.2.2.2 == x.2.2.2.2) = true) →
 ((r1same_pre (x.1.1, x.2.1)) ∧
 letP (r1same (x.1.1, x.2.1)) fun y =>
 ((y = true) →
 (r16sametris_pre (x.1.2.1, x.2.2.1))))))
noncomputable def r16same_t (x : (((List Int) × ((List I6) × I2)) × ((List Int) × ((List I6) × I2)))) : Tr Bool true :=
 (.b10 (x.1.2.2.1 == x.2.2.2.1)
 (.b10 (x.1.2.2.2 == x.2.2.2.2)
 (.fn r1same_S (x.1.1, x.2.1) fun y =>
 (.b10 y
 (.fn r16sametris_S (x.1.2.1, x.2.2.1) fun y_1 =>
 (.ret y_1))
 (.ret false)))
 (.ret false))
 (.ret false))
noncomputable abbrev r16same_S : FnS := ⟨(.pair (.agg (Ty.prod (Ty.sl yi) (Ty.prod (Ty.sl yy6) yy2))) (.agg (Ty.prod (Ty.sl yi) (Ty.prod (Ty.sl yy6) yy2)))), (.one Ty.bool), r16same_pre, r16same⟩
theorem r16same_ok : SpecOk Try.prog 11 (fnSpec r16same_S) := SpecOk.tr r16same_S r16same_t (fn := Try.f11) tt_ok sp_r16sametris_ok mixed (by kernel_rfl) (ItsOk.nil _ _) (fun x => LpsOk.nil) (fun x => (by kernel_rfl)) fun x Q => (by kernel_rfl)
def sp_r16same : List (Nat × Ev.Spec) := (11, fnSpec r16same_S) :: sp_r16sametris
theorem sp_r16same_ok : SpecsOk Try.prog sp_r16same := SpecsOk.add (fn := Try.f11) (by kernel_rfl) r16same_ok sp_r16sametris_ok
noncomputable def lawRgt_l0 (x : (Int × (Int × (Int × (List ((List Int) × ((List I6) × I2))))))) : LoopD := ⟨[], ⟨pvs 90 0 [(3, .v (.one (.full 0))), (9, .v (.one (.ptr 1 0))), (11, .v (.one (.i .i64)))], [.row (Ty.prod (Ty.sl yi) (Ty.prod (Ty.sl yy6) yy2)) 0, .cells [.i .i64, .i .i64, .i .i64, .full 2, .full 3] 26, .row (Ty.prod (Ty.sl yi) (Ty.prod (Ty.sl yy6) yy2)) 2, .row (Ty.prod yi yy3) 2], 0, none, [], [1], [2, 3, 4, 5, 6, 0], [.i, .i, .i, (.l (Ty.prod (Ty.sl yi) (Ty.prod (Ty.sl yy6) yy2))), (.l (Ty.prod yi yy3)), .i], [.l (Ty.prod (Ty.sl yi) (Ty.prod (Ty.sl yy6) yy2)) x.2.2.2]⟩, [⟨.ret, .ret, ⟨pvs 90 0 [(8, .v (.one (.b)))], [], 0, none, [], [0], [], [], [.b false]⟩⟩, ⟨(.exit 0), .normal, ⟨pvs 90 0 [], [], 0, none, [], [], [], [], []⟩⟩]⟩
noncomputable def lawRgt_l0_step (x : (Int × (Int × (Int × (List ((List Int) × ((List I6) × I2))))))) (s : (Int × (Int × (Int × ((List ((List Int) × ((List I6) × I2))) × ((List (Int × I3)) × Int)))))) : (Int × (Int × (Int × ((List ((List Int) × ((List I6) × I2))) × ((List (Int × I3)) × Int))))) ⊕ (Unit ⊕ Unit) :=
 (if (s.2.2.2.2.2 < (((List.length x.2.2.2) : Nat) : Int)) then
 (letV (r16same ((List.getD s.2.2.2.1 (Int.toNat s.2.2.2.2.2) ([], ([], ((0 : Int), (0 : Int))))), (List.getD x.2.2.2 (Int.toNat s.2.2.2.2.2) ([], ([], ((0 : Int), (0 : Int))))))) fun y =>
 (if ((!y) = true) then
 (Sum.inr (Sum.inl ())) else
 (Sum.inl (s.1, (s.2.1, (s.2.2.1, (s.2.2.2.1, (s.2.2.2.2.1, (w64 (s.2.2.2.2.2 + (1 : Int))))))))))) else
 (Sum.inr (Sum.inr (()))))
noncomputable def lawRgt_l0_pre (x : (Int × (Int × (Int × (List ((List Int) × ((List I6) × I2))))))) (s : (Int × (Int × (Int × ((List ((List Int) × ((List I6) × I2))) × ((List (Int × I3)) × Int)))))) : Prop :=
 ((s.2.2.2.2.2 < (((List.length x.2.2.2) : Nat) : Int)) →
 ((((0 : Int) ≤ s.2.2.2.2.2) ∧ (s.2.2.2.2.2 < (((List.length s.2.2.2.1) : Nat) : Int))) ∧
 (((Int.toNat s.2.2.2.2.2) < (List.length s.2.2.2.1)) ∧
 (((Int.toNat s.2.2.2.2.2) < (List.length s.2.2.2.1)) ∧
 ((((0 : Int) ≤ s.2.2.2.2.2) ∧ (s.2.2.2.2.2 < (((List.length x.2.2.2) : Nat) : Int))) ∧
 (((Int.toNat s.2.2.2.2.2) < (List.length x.2.2.2)) ∧
 (((Int.toNat s.2.2.2.2.2) < (List.length x.2.2.2)) ∧
 (r16same_pre ((List.getD s.2.2.2.1 (Int.toNat s.2.2.2.2.2) ([], ([], ((0 : Int), (0 : Int))))), (List.getD x.2.2.2 (Int.toNat s.2.2.2.2.2) ([], ([], ((0 : Int), (0 : Int))))))))))))))
noncomputable def lawRgt_l0_t (x : (Int × (Int × (Int × (List ((List Int) × ((List I6) × I2))))))) (s : (Int × (Int × (Int × ((List ((List Int) × ((List I6) × I2))) × ((List (Int × I3)) × Int)))))) : Tr ((Int × (Int × (Int × ((List ((List Int) × ((List I6) × I2))) × ((List (Int × I3)) × Int))))) ⊕ (Unit ⊕ Unit)) true :=
 (.i10 (s.2.2.2.2.2 < (((List.length x.2.2.2) : Nat) : Int))
 (.oR s.2.2.2.2.2 (((List.length s.2.2.2.1) : Nat) : Int)
 (.od ((Int.toNat s.2.2.2.2.2) < (List.length s.2.2.2.1))
 (.od ((Int.toNat s.2.2.2.2.2) < (List.length s.2.2.2.1))
 (.oR s.2.2.2.2.2 (((List.length x.2.2.2) : Nat) : Int)
 (.od ((Int.toNat s.2.2.2.2.2) < (List.length x.2.2.2))
 (.od ((Int.toNat s.2.2.2.2.2) < (List.length x.2.2.2))
 (.fn r16same_S ((List.getD s.2.2.2.1 (Int.toNat s.2.2.2.2.2) ([], ([], zz2))), (List.getD x.2.2.2 (Int.toNat s.2.2.2.2.2) ([], ([], zz2)))) fun y =>
 (.b00 (!y)
 (.ret (.inr (Sum.inl ())))
 (.ret (.inl (s.1, (s.2.1, (s.2.2.1, (s.2.2.2.1, (s.2.2.2.2.1, (w64 (s.2.2.2.2.2 + (1 : Int))))))))))))))))))
 (.ret (.inr (Sum.inr (())))))
noncomputable def lawRgt (x : (Int × (Int × (Int × (List ((List Int) × ((List I6) × I2))))))) : Bool :=
 (letV (r18big x.2.2.2) fun y =>
 (if (y = true) then
 true else
 (letV (buildM x) fun y_1 =>
 (if ((y_1.2 != (0 : Int)) = true) then
 (letV (mappedL false) fun y_2 =>
 (if (y_2 = true) then
 (if (((w64 ((((List.length y_1.1.2.2.2.1) : Nat) : Int) + (((List.length y_1.1.2.2.2.2) : Nat) : Int))) == (0 : Int)) = true) then
 (if ((y_1.2 == (1 : Int)) = true) then
 true else
 (y_1.2 == (9 : Int))) else
 false) else
 false)) else
 (letV (isM y_1.1) fun y_2 =>
 (if ((!y_2) = true) then
 false else
 (if (((((List.length y_1.1.2.2.2.1) : Nat) : Int) != (((List.length x.2.2.2) : Nat) : Int)) = true) then
 false else
 (if ((y_1.1.1 != x.1) = true) then
 false else
 (if ((y_1.1.2.1 != x.2.1) = true) then
 false else
 (if ((y_1.1.2.2.1 != x.2.2.1) = true) then
 false else
 (letV (run (lawRgt_l0_step x) (y_1.1.1, (y_1.1.2.1, (y_1.1.2.2.1, (y_1.1.2.2.2.1, (y_1.1.2.2.2.2, (0 : Int))))))) fun r =>
 (Sum.elim (fun a =>
 false) (fun b =>
 (letV (mappedL false) fun y_3 =>
 y_3)) r))))))))))))
noncomputable def lawRgt_pre (x : (Int × (Int × (Int × (List ((List Int) × ((List I6) × I2))))))) : Prop :=
 ((r18big_pre x.2.2.2) ∧
 letP (r18big x.2.2.2) fun y =>
 (¬ (y = true) →
 ((buildM_pre x) ∧
 letP (buildM x) fun y_1 =>
 ((((y_1.2 != (0 : Int)) = true) →
 (mappedL_pre false)) ∧
 (¬ ((y_1.2 != (0 : Int)) = true) →
 ((isM_pre y_1.1) ∧
 letP (isM y_1.1) fun y_2 =>
 (¬ ((!y_2) = true) →
 (¬ (((((List.length y_1.1.2.2.2.1) : Nat) : Int) != (((List.length x.2.2.2) : Nat) : Int)) = true) →
 (¬ ((y_1.1.1 != x.1) = true) →
 (¬ ((y_1.1.2.1 != x.2.1) = true) →
 (¬ ((y_1.1.2.2.1 != x.2.2.1) = true) →
 (Term (lawRgt_l0_step x) (lawRgt_l0_pre x) (y_1.1.1, (y_1.1.2.1, (y_1.1.2.2.1, (y_1.1.2.2.2.1, (y_1.1.2.2.2.2, (0 : Int)))))) ∧
 letP (run (lawRgt_l0_step x) (y_1.1.1, (y_1.1.2.1, (y_1.1.2.2.1, (y_1.1.2.2.2.1, (y_1.1.2.2.2.2, (0 : Int))))))) fun r =>
 (cS r (fun a =>
 True) (fun b =>
 (mappedL_pre false)))))))))))))))
noncomputable def lawRgt_t (x : (Int × (Int × (Int × (List ((List Int) × ((List I6) × I2))))))) : Tr Bool true :=
 (.fn r18big_S x.2.2.2 fun y =>
 (.b01 y
 (.ret true)
 (.fn buildM_S x fun y_1 =>
 (.b11 (y_1.2 != (0 : Int))
 (.fn mappedL_S false fun y_2 =>
 (.b00 y_2
 (.b00 ((w64 ((((List.length y_1.1.2.2.2.1) : Nat) : Int) + (((List.length y_1.1.2.2.2.2) : Nat) : Int))) == (0 : Int))
 (.b00 (y_1.2 == (1 : Int))
 (.ret true)
 (.ret (y_1.2 == (9 : Int))))
 (.ret false))
 (.ret false)))
 (.fn isM_S y_1.1 fun y_2 =>
 (.b01 (!y_2)
 (.ret false)
 (.b01 ((((List.length y_1.1.2.2.2.1) : Nat) : Int) != (((List.length x.2.2.2) : Nat) : Int))
 (.ret false)
 (.b01 (y_1.1.1 != x.1)
 (.ret false)
 (.b01 (y_1.1.2.1 != x.2.1)
 (.ret false)
 (.b01 (y_1.1.2.2.1 != x.2.2.1)
 (.ret false)
 (LoopD.lp (lawRgt_l0 x) (lawRgt_l0_t x) (y_1.1.1, (y_1.1.2.1, (y_1.1.2.2.1, (y_1.1.2.2.2.1, (y_1.1.2.2.2.2, (0 : Int)))))) fun r =>
 (.s01 r (fun a =>
 (.ret false)) (fun b =>
 (.fn mappedL_S false fun y_3 =>
 (.ret y_3)))))))))))))))
noncomputable abbrev lawRgt_S : FnS := ⟨(.pair (.one yi) (.pair (.one yi) (.pair (.one yi) (.one (Ty.sl (Ty.prod (Ty.sl yi) (Ty.prod (Ty.sl yy6) yy2))))))), (.one Ty.bool), lawRgt_pre, lawRgt⟩
theorem lawRgt_ok : SpecOk Try.prog 3 (fnSpec lawRgt_S) := SpecOk.tr lawRgt_S lawRgt_t (fn := Try.f3) tt_ok sp_r16same_ok mixed (by kernel_rfl) (ItsOk.nil _ _) (fun x => (LpsOk.tr tt_ok (SpecsOk.ctxI sp_r16same_ok (ItsOk.nil _ _)) mixed 0 (lawRgt_l0 x) (lawRgt_l0_t x) LpsOk.nil (by kernel_rfl) fun g s Q => (by kernel_rfl))) (fun x => (by kernel_rfl)) fun x Q => (by kernel_rfl)
def sp_lawRgt : List (Nat × Ev.Spec) := (3, fnSpec lawRgt_S) :: sp_r16same
theorem sp_lawRgt_ok : SpecsOk Try.prog sp_lawRgt := SpecsOk.add (fn := Try.f3) (by kernel_rfl) lawRgt_ok sp_r16same_ok
end Go.Proofs.Ytbjfokijjefoeaa
