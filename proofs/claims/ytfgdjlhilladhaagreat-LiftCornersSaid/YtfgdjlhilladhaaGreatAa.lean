/- Models of functions of layer 17. -/
import Derived.Test.YtfgdjlhilladhaaGreatEvR
import Derived.Test.YtfgdjlhilladhaaGreatTt
namespace Go.Proofs.YtfgdjlhilladhaaGreat
open Go Go.Ev Go.Proofs
set_option linter.unusedVariables false
noncomputable def behind (x : I3) : Bool :=
 (if (x.2.2 ≥ x.1) then
 (decide ((IntKind.wrap IntKind.u64 ((IntKind.wrap IntKind.u64 x.2.2) - (IntKind.wrap IntKind.u64 x.1))) ≥ (IntKind.wrap IntKind.u64 x.2.1))) else
 false)
noncomputable def behind_pre (_ : I3) : Prop := True
noncomputable def behind_t (x : I3) : Tr Bool false :=
 (.i00 (x.2.2 ≥ x.1)
 (.ret (decide ((IntKind.wrap IntKind.u64 ((IntKind.wrap IntKind.u64 x.2.2) - (IntKind.wrap IntKind.u64 x.1))) ≥ (IntKind.wrap IntKind.u64 x.2.1))))
 (.ret false))
noncomputable abbrev behind_S : FnS := ⟨(.pair (.one yi) (.pair (.one yi) (.one yi))), (.one Ty.bool), behind_pre, behind⟩
theorem behind_ok : SpecOk Tryz.prog 168 (fnSpec behind_S) := SpecOk.tr behind_S behind_t (fn := Tryz.f168) tt_ok (SpecsOk.nil _) mixed (by kernel_rfl) (ItsOk.nil _ _) (fun x => LpsOk.nil) (fun x => (by kernel_rfl)) fun x Q => (by kernel_rfl)
def sp_behind : List (Nat × Ev.Spec) := (168, fnSpec behind_S) :: []
theorem sp_behind_ok : SpecsOk Tryz.prog sp_behind := SpecsOk.add (fn := Tryz.f168) (by kernel_rfl) behind_ok (SpecsOk.nil _)
noncomputable def sfree (x : (Int × I3)) : Bool :=
 (if (x.2.1 ≤ (0 : Int)) then
 true else
 (if (x.2.2.2 ≤ (0 : Int)) then
 true else
 (letV (behind (x.1, (x.2.1, x.2.2.1))) fun y =>
 (if (y = true) then
 true else
 (letV (behind (x.2.2.1, (x.2.2.2, x.1))) fun y_1 =>
 y_1)))))
noncomputable def sfree_pre (_ : (Int × I3)) : Prop := True
noncomputable def sfree_t (x : (Int × I3)) : Tr Bool false :=
 (.i00 (x.2.1 ≤ (0 : Int))
 (.ret true)
 (.i00 (x.2.2.2 ≤ (0 : Int))
 (.ret true)
 (.fn0 behind_S (x.1, (x.2.1, x.2.2.1)) trivial fun y =>
 (.b00 y
 (.ret true)
 (.fn0 behind_S (x.2.2.1, (x.2.2.2, x.1)) trivial fun y_1 =>
 (.ret y_1))))))
noncomputable abbrev sfree_S : FnS := ⟨(.pair (.one yi) (.pair (.one yi) (.pair (.one yi) (.one yi)))), (.one Ty.bool), sfree_pre, sfree⟩
theorem sfree_ok : SpecOk Tryz.prog 167 (fnSpec sfree_S) := SpecOk.tr sfree_S sfree_t (fn := Tryz.f167) tt_ok sp_behind_ok mixed (by kernel_rfl) (ItsOk.nil _ _) (fun x => LpsOk.nil) (fun x => (by kernel_rfl)) fun x Q => (by kernel_rfl)
def sp_sfree : List (Nat × Ev.Spec) := (167, fnSpec sfree_S) :: sp_behind
theorem sp_sfree_ok : SpecsOk Tryz.prog sp_sfree := SpecsOk.add (fn := Tryz.f167) (by kernel_rfl) sfree_ok sp_behind_ok
noncomputable def sapart (x : ((Int × I3) × (Int × I3))) : Bool :=
 (letV (sfree (x.1.1, (x.1.2.2.1, (x.2.1, x.2.2.2.1)))) fun y =>
 (if (y = true) then
 true else
 (letV (sfree (x.1.2.1, (x.1.2.2.2, (x.2.2.1, x.2.2.2.2)))) fun y_1 =>
 y_1)))
noncomputable def sapart_pre (_ : ((Int × I3) × (Int × I3))) : Prop := True
noncomputable def sapart_t (x : ((Int × I3) × (Int × I3))) : Tr Bool false :=
 (.fn0 sfree_S (x.1.1, (x.1.2.2.1, (x.2.1, x.2.2.2.1))) trivial fun y =>
 (.b00 y
 (.ret true)
 (.fn0 sfree_S (x.1.2.1, (x.1.2.2.2, (x.2.2.1, x.2.2.2.2))) trivial fun y_1 =>
 (.ret y_1))))
noncomputable abbrev sapart_S : FnS := ⟨(.pair (.agg (Ty.prod yi yy3)) (.agg (Ty.prod yi yy3))), (.one Ty.bool), sapart_pre, sapart⟩
theorem sapart_ok : SpecOk Tryz.prog 131 (fnSpec sapart_S) := SpecOk.tr sapart_S sapart_t (fn := Tryz.f131) tt_ok sp_sfree_ok mixed (by kernel_rfl) (ItsOk.nil _ _) (fun x => LpsOk.nil) (fun x => (by kernel_rfl)) fun x Q => (by kernel_rfl)
def sp_sapart : List (Nat × Ev.Spec) := (131, fnSpec sapart_S) :: sp_sfree
theorem sp_sapart_ok : SpecsOk Tryz.prog sp_sapart := SpecsOk.add (fn := Tryz.f131) (by kernel_rfl) sapart_ok sp_sfree_ok
noncomputable def nota (x : ((Int × I3) × (Int × I3))) : Bool :=
 (letV (sapart x) fun y =>
 (!y))
noncomputable def nota_pre (_ : ((Int × I3) × (Int × I3))) : Prop := True
noncomputable def nota_t (x : ((Int × I3) × (Int × I3))) : Tr Bool false :=
 (.fn0 sapart_S x trivial fun y =>
 (.ret (!y)))
noncomputable abbrev nota_S : FnS := ⟨(.pair (.agg (Ty.prod yi yy3)) (.ptr (.prod (.int .i64) (.prod (.int .i64) (.prod (.int .i64) (.int .i64)))))), (.one Ty.bool), nota_pre, nota⟩
theorem nota_ok : SpecOk Tryz.prog 130 (fnSpec nota_S) := SpecOk.tr nota_S nota_t (fn := Tryz.f130) tt_ok sp_sapart_ok mixed (by kernel_rfl) (ItsOk.nil _ _) (fun x => LpsOk.nil) (fun x => (by kernel_rfl)) fun x Q => (by kernel_rfl)
def sp_nota : List (Nat × Ev.Spec) := (130, fnSpec nota_S) :: sp_sapart
theorem sp_nota_ok : SpecsOk Tryz.prog sp_nota := SpecsOk.add (fn := Tryz.f130) (by kernel_rfl) nota_ok sp_sapart_ok
noncomputable def indexR_l0 (x : ((List (Int × I3)) × (Int × I3))) : LoopD := ⟨[], ⟨pvs 19 0 [(0, .v (.one (.full 0))), (1, .v (.one (.clo 130 0 [.elem 1]))), (7, .v (.one (.i .i64))), (8, .v (.one (.i .i64)))], [.row (Ty.prod yi yy3) 0, .row (Ty.prod yi yy3) 0], 0, none, [], [0, 1, 3, 4], [2], [.i], [.n 0, .i (((List.length x.1) : Nat) : Int), .l (Ty.prod yi yy3) x.1, .l (Ty.prod yi yy3) [x.2]]⟩, [⟨.ret, .ret, ⟨pvs 19 0 [(4, .v (.one (.i .i64)))], [], 0, none, [], [], [0], [.i], []⟩⟩, ⟨(.exit 0), .normal, ⟨pvs 19 0 [], [], 0, none, [], [], [], [], []⟩⟩]⟩
noncomputable def indexR_l0_step (x : ((List (Int × I3)) × (Int × I3))) (s : Int) : Int ⊕ (Int ⊕ Unit) :=
 (if (s < (((List.length x.1) : Nat) : Int)) then
 (letV (nota ((List.getD x.1 (Int.toNat s) ((0 : Int), ((0 : Int), ((0 : Int), (0 : Int))))), x.2)) fun y =>
 (if (y = true) then
 (Sum.inr (Sum.inl s)) else
 (Sum.inl (w64 (s + (1 : Int)))))) else
 (Sum.inr (Sum.inr (()))))
noncomputable def indexR_l0_pre (x : ((List (Int × I3)) × (Int × I3))) (s : Int) : Prop :=
 ((s < (((List.length x.1) : Nat) : Int)) →
 ((((0 : Int) ≤ s) ∧ (s < (((List.length x.1) : Nat) : Int))) ∧
 (((Int.toNat s) < (List.length x.1)) ∧
 ((Int.toNat s) < (List.length x.1)))))
noncomputable def indexR_l0_t (x : ((List (Int × I3)) × (Int × I3))) (s : Int) : Tr (Int ⊕ (Int ⊕ Unit)) true :=
 (.i10 (s < (((List.length x.1) : Nat) : Int))
 (.oR s (((List.length x.1) : Nat) : Int)
 (.od ((Int.toNat s) < (List.length x.1))
 (.od ((Int.toNat s) < (List.length x.1))
 (.fn0 nota_S ((List.getD x.1 (Int.toNat s) ((0 : Int), zz3)), x.2) trivial fun y =>
 (.b00 y
 (.ret (.inr (Sum.inl s)))
 (.ret (.inl (w64 (s + (1 : Int))))))))))
 (.ret (.inr (Sum.inr (())))))
noncomputable def indexR (x : ((List (Int × I3)) × (Int × I3))) : Int :=
 (letV (run (indexR_l0_step x) (0 : Int)) fun r =>
 (Sum.elim (fun a =>
 a) (fun b =>
 (-1 : Int)) r))
noncomputable def indexR_pre (x : ((List (Int × I3)) × (Int × I3))) : Prop :=
 (Term (indexR_l0_step x) (indexR_l0_pre x) (0 : Int))
noncomputable def indexR_t (x : ((List (Int × I3)) × (Int × I3))) : Tr Int true :=
 (LoopD.lp (indexR_l0 x) (indexR_l0_t x) (0 : Int) fun r =>
 (.s00 r (fun a =>
 (.ret a)) (fun b =>
 (.ret (-1 : Int)))))
noncomputable abbrev indexR_S : FnS := ⟨(.pair (.one (Ty.sl (Ty.prod yi yy3))) (.clo 130 (.ptr (.prod (.int .i64) (.prod (.int .i64) (.prod (.int .i64) (.int .i64))))))), (.one yi), indexR_pre, indexR⟩
theorem indexR_ok : SpecOk Tryz.prog 166 (fnSpec indexR_S) := SpecOk.tr indexR_S indexR_t (fn := Tryz.f166) tt_ok sp_nota_ok mixed (by kernel_rfl) (ItsOk.nil _ _) (fun x => (LpsOk.tr tt_ok (SpecsOk.ctxI sp_nota_ok (ItsOk.nil _ _)) mixed 0 (indexR_l0 x) (indexR_l0_t x) LpsOk.nil (by kernel_rfl) fun g s Q => (by kernel_rfl))) (fun x => (by kernel_rfl)) fun x Q => (by kernel_rfl)
def sp_indexR : List (Nat × Ev.Spec) := (166, fnSpec indexR_S) :: sp_nota
theorem sp_indexR_ok : SpecsOk Tryz.prog sp_indexR := SpecsOk.add (fn := Tryz.f166) (by kernel_rfl) indexR_ok sp_nota_ok
noncomputable def containsR (x : ((List (Int × I3)) × (Int × I3))) : Bool :=
 (letV (indexR x) fun y =>
 (decide (y ≥ (0 : Int))))
noncomputable def containsR_pre (x : ((List (Int × I3)) × (Int × I3))) : Prop :=
 (indexR_pre x)
noncomputable def containsR_t (x : ((List (Int × I3)) × (Int × I3))) : Tr Bool true :=
 (.fn indexR_S x fun y =>
 (.ret (decide (y ≥ (0 : Int)))))
noncomputable abbrev containsR_S : FnS := ⟨(.pair (.one (Ty.sl (Ty.prod yi yy3))) (.clo 130 (.ptr (.prod (.int .i64) (.prod (.int .i64) (.prod (.int .i64) (.int .i64))))))), (.one Ty.bool), containsR_pre, containsR⟩
theorem containsR_ok : SpecOk Tryz.prog 129 (fnSpec containsR_S) := SpecOk.tr containsR_S containsR_t (fn := Tryz.f129) tt_ok sp_indexR_ok mixed (by kernel_rfl) (ItsOk.nil _ _) (fun x => LpsOk.nil) (fun x => (by kernel_rfl)) fun x Q => (by kernel_rfl)
def sp_containsR : List (Nat × Ev.Spec) := (129, fnSpec containsR_S) :: sp_indexR
theorem sp_containsR_ok : SpecsOk Tryz.prog sp_containsR := SpecsOk.add (fn := Tryz.f129) (by kernel_rfl) containsR_ok sp_indexR_ok
noncomputable def shis_l0 (x : (Int × (Int × (List (Int × I3))))) : LoopD := ⟨[], ⟨pvs 66 0 [(0, .v (.one (.i .i64))), (1, .v (.one (.i .i64))), (2, .v (.one (.full 0))), (9, .v (.one (.full 0))), (10, .v (.one (.i .i64))), (11, .v (.one (.i .i64)))], [.row (Ty.prod yi yy3) 0], 0, none, [], [0, 1, 2, 4], [3], [.i], [.i x.1, .i x.2.1, .i (((List.length x.2.2) : Nat) : Int), .l (Ty.prod yi yy3) x.2.2]⟩, [⟨.ret, .ret, ⟨pvs 66 0 [(6, .v (.one (.b)))], [], 0, none, [], [0], [], [], [.b false]⟩⟩, ⟨(.exit 0), .normal, ⟨pvs 66 0 [], [], 0, none, [], [], [], [], []⟩⟩]⟩
noncomputable def shis_l0_step (x : (Int × (Int × (List (Int × I3))))) (s : Int) : Int ⊕ (Unit ⊕ Unit) :=
 (if (s < (((List.length x.2.2) : Nat) : Int)) then
 (if ((minI (List.getD x.2.2 (Int.toNat s) ((0 : Int), ((0 : Int), ((0 : Int), (0 : Int))))).2.2.1 (List.getD x.2.2 (Int.toNat s) ((0 : Int), ((0 : Int), ((0 : Int), (0 : Int))))).2.2.2) < (1 : Int)) then
 (Sum.inr (Sum.inl ())) else
 (if ((minI (List.getD x.2.2 (Int.toNat s) ((0 : Int), ((0 : Int), ((0 : Int), (0 : Int))))).1 (List.getD x.2.2 (Int.toNat s) ((0 : Int), ((0 : Int), ((0 : Int), (0 : Int))))).2.1) < (0 : Int)) then
 (Sum.inr (Sum.inl ())) else
 (if ((List.getD x.2.2 (Int.toNat s) ((0 : Int), ((0 : Int), ((0 : Int), (0 : Int))))).2.2.1 > x.1) then
 (Sum.inr (Sum.inl ())) else
 (if ((List.getD x.2.2 (Int.toNat s) ((0 : Int), ((0 : Int), ((0 : Int), (0 : Int))))).2.2.2 > x.2.1) then
 (Sum.inr (Sum.inl ())) else
 (if ((List.getD x.2.2 (Int.toNat s) ((0 : Int), ((0 : Int), ((0 : Int), (0 : Int))))).1 > (w64 (x.1 - (List.getD x.2.2 (Int.toNat s) ((0 : Int), ((0 : Int), ((0 : Int), (0 : Int))))).2.2.1))) then
 (Sum.inr (Sum.inl ())) else
 (if ((List.getD x.2.2 (Int.toNat s) ((0 : Int), ((0 : Int), ((0 : Int), (0 : Int))))).2.1 > (w64 (x.2.1 - (List.getD x.2.2 (Int.toNat s) ((0 : Int), ((0 : Int), ((0 : Int), (0 : Int))))).2.2.2))) then
 (Sum.inr (Sum.inl ())) else
 (letV (containsR ((List.take (Int.toNat s) x.2.2), (List.getD x.2.2 (Int.toNat s) ((0 : Int), ((0 : Int), ((0 : Int), (0 : Int))))))) fun y =>
 (if (y = true) then
 (Sum.inr (Sum.inl ())) else
 (Sum.inl (w64 (s + (1 : Int)))))))))))) else
 (Sum.inr (Sum.inr (()))))
noncomputable def shis_l0_pre (x : (Int × (Int × (List (Int × I3))))) (s : Int) : Prop :=
 ((s < (((List.length x.2.2) : Nat) : Int)) →
 ((((0 : Int) ≤ s) ∧ (s < (((List.length x.2.2) : Nat) : Int))) ∧
 (((Int.toNat s) < (List.length x.2.2)) ∧
 (((Int.toNat s) < (List.length x.2.2)) ∧
 (¬ ((minI (List.getD x.2.2 (Int.toNat s) ((0 : Int), ((0 : Int), ((0 : Int), (0 : Int))))).2.2.1 (List.getD x.2.2 (Int.toNat s) ((0 : Int), ((0 : Int), ((0 : Int), (0 : Int))))).2.2.2) < (1 : Int)) →
 (¬ ((minI (List.getD x.2.2 (Int.toNat s) ((0 : Int), ((0 : Int), ((0 : Int), (0 : Int))))).1 (List.getD x.2.2 (Int.toNat s) ((0 : Int), ((0 : Int), ((0 : Int), (0 : Int))))).2.1) < (0 : Int)) →
 (¬ ((List.getD x.2.2 (Int.toNat s) ((0 : Int), ((0 : Int), ((0 : Int), (0 : Int))))).2.2.1 > x.1) →
 (¬ ((List.getD x.2.2 (Int.toNat s) ((0 : Int), ((0 : Int), ((0 : Int), (0 : Int))))).2.2.2 > x.2.1) →
 (¬ ((List.getD x.2.2 (Int.toNat s) ((0 : Int), ((0 : Int), ((0 : Int), (0 : Int))))).1 > (w64 (x.1 - (List.getD x.2.2 (Int.toNat s) ((0 : Int), ((0 : Int), ((0 : Int), (0 : Int))))).2.2.1))) →
 (¬ ((List.getD x.2.2 (Int.toNat s) ((0 : Int), ((0 : Int), ((0 : Int), (0 : Int))))).2.1 > (w64 (x.2.1 - (List.getD x.2.2 (Int.toNat s) ((0 : Int), ((0 : Int), ((0 : Int), (0 : Int))))).2.2.2))) →
 ((((0 : Int) ≤ s) ∧ (s ≤ (((List.length x.2.2) : Nat) : Int))) ∧
 (containsR_pre ((List.take (Int.toNat s) x.2.2), (List.getD x.2.2 (Int.toNat s) ((0 : Int), ((0 : Int), ((0 : Int), (0 : Int))))))))))))))))))
noncomputable def shis_l0_t (x : (Int × (Int × (List (Int × I3))))) (s : Int) : Tr (Int ⊕ (Unit ⊕ Unit)) true :=
 (.i10 (s < (((List.length x.2.2) : Nat) : Int))
 (.oR s (((List.length x.2.2) : Nat) : Int)
 (.od ((Int.toNat s) < (List.length x.2.2))
 (.od ((Int.toNat s) < (List.length x.2.2))
 (.i01 ((minI (List.getD x.2.2 (Int.toNat s) ((0 : Int), zz3)).2.2.1 (List.getD x.2.2 (Int.toNat s) ((0 : Int), zz3)).2.2.2) < (1 : Int))
 (.ret (.inr (Sum.inl ())))
 (.i01 ((minI (List.getD x.2.2 (Int.toNat s) ((0 : Int), zz3)).1 (List.getD x.2.2 (Int.toNat s) ((0 : Int), zz3)).2.1) < (0 : Int))
 (.ret (.inr (Sum.inl ())))
 (.i01 ((List.getD x.2.2 (Int.toNat s) ((0 : Int), zz3)).2.2.1 > x.1)
 (.ret (.inr (Sum.inl ())))
 (.i01 ((List.getD x.2.2 (Int.toNat s) ((0 : Int), zz3)).2.2.2 > x.2.1)
 (.ret (.inr (Sum.inl ())))
 (.i01 ((List.getD x.2.2 (Int.toNat s) ((0 : Int), zz3)).1 > (w64 (x.1 - (List.getD x.2.2 (Int.toNat s) ((0 : Int), zz3)).2.2.1)))
 (.ret (.inr (Sum.inl ())))
 (.i01 ((List.getD x.2.2 (Int.toNat s) ((0 : Int), zz3)).2.1 > (w64 (x.2.1 - (List.getD x.2.2 (Int.toNat s) ((0 : Int), zz3)).2.2.2)))
 (.ret (.inr (Sum.inl ())))
 (.og ((decide ((0 : Int) ≤ s)) && (decide (s ≤ (((List.length x.2.2) : Nat) : Int)))) (((0 : Int) ≤ s) ∧ (s ≤ (((List.length x.2.2) : Nat) : Int))) (fun h => (and_t (decide_eq_true h.1) (decide_eq_true h.2)))
 (.fn containsR_S ((List.take (Int.toNat s) x.2.2), (List.getD x.2.2 (Int.toNat s) ((0 : Int), zz3))) fun y =>
 (.b00 y
 (.ret (.inr (Sum.inl ())))
 (.ret (.inl (w64 (s + (1 : Int)))))))))))))))))
 (.ret (.inr (Sum.inr (())))))
noncomputable def shis (x : (Int × (Int × (List (Int × I3))))) : Bool :=
 (letV (run (shis_l0_step x) (0 : Int)) fun r =>
 (Sum.elim (fun a =>
 false) (fun b =>
 true) r))
noncomputable def shis_pre (x : (Int × (Int × (List (Int × I3))))) : Prop :=
 (Term (shis_l0_step x) (shis_l0_pre x) (0 : Int))
noncomputable def shis_t (x : (Int × (Int × (List (Int × I3))))) : Tr Bool true :=
 (LoopD.lp (shis_l0 x) (shis_l0_t x) (0 : Int) fun r =>
 (.s00 r (fun a =>
 (.ret false)) (fun b =>
 (.ret true))))
noncomputable abbrev shis_S : FnS := ⟨(.pair (.one yi) (.pair (.one yi) (.one (Ty.sl (Ty.prod yi yy3))))), (.one Ty.bool), shis_pre, shis⟩
theorem shis_ok : SpecOk Tryz.prog 89 (fnSpec shis_S) := SpecOk.tr shis_S shis_t (fn := Tryz.f89) tt_ok sp_containsR_ok mixed (by kernel_rfl) (ItsOk.nil _ _) (fun x => (LpsOk.tr tt_ok (SpecsOk.ctxI sp_containsR_ok (ItsOk.nil _ _)) mixed 0 (shis_l0 x) (shis_l0_t x) LpsOk.nil (by kernel_rfl) fun g s Q => (by kernel_rfl))) (fun x => (by kernel_rfl)) fun x Q => (by kernel_rfl)
def sp_shis : List (Nat × Ev.Spec) := (89, fnSpec shis_S) :: sp_containsR
theorem sp_shis_ok : SpecsOk Tryz.prog sp_shis := SpecsOk.add (fn := Tryz.f89) (by kernel_rfl) shis_ok sp_containsR_ok
noncomputable def mul32M (x : I2) : I2 :=
 ((IntKind.wrap IntKind.u32 (Int.fdiv (IntKind.wrap IntKind.u64 ((IntKind.wrap IntKind.u64 x.1) * (IntKind.wrap IntKind.u64 x.2))) (4294967296 : Int))), (IntKind.wrap IntKind.u32 (IntKind.wrap IntKind.u64 ((IntKind.wrap IntKind.u64 x.1) * (IntKind.wrap IntKind.u64 x.2)))))
noncomputable def mul32M_pre (_ : I2) : Prop := True
noncomputable def mul32M_t (x : I2) : Tr I2 false :=
 (.ret ((IntKind.wrap IntKind.u32 (Int.fdiv (IntKind.wrap IntKind.u64 ((IntKind.wrap IntKind.u64 x.1) * (IntKind.wrap IntKind.u64 x.2))) (4294967296 : Int))), (IntKind.wrap IntKind.u32 (IntKind.wrap IntKind.u64 ((IntKind.wrap IntKind.u64 x.1) * (IntKind.wrap IntKind.u64 x.2))))))
noncomputable abbrev mul32M_S : FnS := ⟨(.pair (.one (Ty.int IntKind.u32)) (.one (Ty.int IntKind.u32))), (.pair (.one (Ty.int IntKind.u32)) (.one (Ty.int IntKind.u32))), mul32M_pre, mul32M⟩
theorem mul32M_ok : SpecOk Tryz.prog 138 (fnSpec mul32M_S) := SpecOk.tr mul32M_S mul32M_t (fn := Tryz.f138) tt_ok sp_shis_ok mixed (by kernel_rfl) (ItsOk.nil _ _) (fun x => LpsOk.nil) (fun x => (by kernel_rfl)) fun x Q => (by kernel_rfl)
def sp_mul32M : List (Nat × Ev.Spec) := (138, fnSpec mul32M_S) :: sp_shis
theorem sp_mul32M_ok : SpecsOk Tryz.prog sp_mul32M := SpecsOk.add (fn := Tryz.f138) (by kernel_rfl) mul32M_ok sp_shis_ok
noncomputable def mul64M (x : I2) : I2 :=
 ((IntKind.wrap IntKind.u64 ((IntKind.wrap IntKind.u64 ((IntKind.wrap IntKind.u64 ((Int.fdiv x.1 (4294967296 : Int)) * (Int.fdiv x.2 (4294967296 : Int)))) + (Int.fdiv (IntKind.wrap IntKind.u64 ((IntKind.wrap IntKind.u64 ((Int.fdiv x.1 (4294967296 : Int)) * (IntKind.wrap IntKind.u64 (((BitVec.toNat ((BitVec.ofInt 64 x.2) &&& (BitVec.ofInt 64 (4294967295 : Int)))) : Nat) : Int)))) + (Int.fdiv (IntKind.wrap IntKind.u64 ((IntKind.wrap IntKind.u64 (((BitVec.toNat ((BitVec.ofInt 64 x.1) &&& (BitVec.ofInt 64 (4294967295 : Int)))) : Nat) : Int)) * (IntKind.wrap IntKind.u64 (((BitVec.toNat ((BitVec.ofInt 64 x.2) &&& (BitVec.ofInt 64 (4294967295 : Int)))) : Nat) : Int)))) (4294967296 : Int)))) (4294967296 : Int)))) + (Int.fdiv (IntKind.wrap IntKind.u64 ((IntKind.wrap IntKind.u64 (((BitVec.toNat ((BitVec.ofInt 64 (IntKind.wrap IntKind.u64 ((IntKind.wrap IntKind.u64 ((Int.fdiv x.1 (4294967296 : Int)) * (IntKind.wrap IntKind.u64 (((BitVec.toNat ((BitVec.ofInt 64 x.2) &&& (BitVec.ofInt 64 (4294967295 : Int)))) : Nat) : Int)))) + (Int.fdiv (IntKind.wrap IntKind.u64 ((IntKind.wrap IntKind.u64 (((BitVec.toNat ((BitVec.ofInt 64 x.1) &&& (BitVec.ofInt 64 (4294967295 : Int)))) : Nat) : Int)) * (IntKind.wrap IntKind.u64 (((BitVec.toNat ((BitVec.ofInt 64 x.2) &&& (BitVec.ofInt 64 (4294967295 : Int)))) : Nat) : Int)))) (4294967296 : Int))))) &&& (BitVec.ofInt 64 (4294967295 : Int)))) : Nat) : Int)) + (IntKind.wrap IntKind.u64 ((IntKind.wrap IntKind.u64 (((BitVec.toNat ((BitVec.ofInt 64 x.1) &&& (BitVec.ofInt 64 (4294967295 : Int)))) : Nat) : Int)) * (Int.fdiv x.2 (4294967296 : Int)))))) (4294967296 : Int)))), (IntKind.wrap IntKind.u64 (x.1 * x.2)))
noncomputable def mul64M_pre (_ : I2) : Prop := True
noncomputable def mul64M_t (x : I2) : Tr I2 false :=
 (.ret ((IntKind.wrap IntKind.u64 ((IntKind.wrap IntKind.u64 ((IntKind.wrap IntKind.u64 ((Int.fdiv x.1 (4294967296 : Int)) * (Int.fdiv x.2 (4294967296 : Int)))) + (Int.fdiv (IntKind.wrap IntKind.u64 ((IntKind.wrap IntKind.u64 ((Int.fdiv x.1 (4294967296 : Int)) * (IntKind.wrap IntKind.u64 (((BitVec.toNat ((BitVec.ofInt 64 x.2) &&& (BitVec.ofInt 64 (4294967295 : Int)))) : Nat) : Int)))) + (Int.fdiv (IntKind.wrap IntKind.u64 ((IntKind.wrap IntKind.u64 (((BitVec.toNat ((BitVec.ofInt 64 x.1) &&& (BitVec.ofInt 64 (4294967295 : Int)))) : Nat) : Int)) * (IntKind.wrap IntKind.u64 (((BitVec.toNat ((BitVec.ofInt 64 x.2) &&& (BitVec.ofInt 64 (4294967295 : Int)))) : Nat) : Int)))) (4294967296 : Int)))) (4294967296 : Int)))) + (Int.fdiv (IntKind.wrap IntKind.u64 ((IntKind.wrap IntKind.u64 (((BitVec.toNat ((BitVec.ofInt 64 (IntKind.wrap IntKind.u64 ((IntKind.wrap IntKind.u64 ((Int.fdiv x.1 (4294967296 : Int)) * (IntKind.wrap IntKind.u64 (((BitVec.toNat ((BitVec.ofInt 64 x.2) &&& (BitVec.ofInt 64 (4294967295 : Int)))) : Nat) : Int)))) + (Int.fdiv (IntKind.wrap IntKind.u64 ((IntKind.wrap IntKind.u64 (((BitVec.toNat ((BitVec.ofInt 64 x.1) &&& (BitVec.ofInt 64 (4294967295 : Int)))) : Nat) : Int)) * (IntKind.wrap IntKind.u64 (((BitVec.toNat ((BitVec.ofInt 64 x.2) &&& (BitVec.ofInt 64 (4294967295 : Int)))) : Nat) : Int)))) (4294967296 : Int))))) &&& (BitVec.ofInt 64 (4294967295 : Int)))) : Nat) : Int)) + (IntKind.wrap IntKind.u64 ((IntKind.wrap IntKind.u64 (((BitVec.toNat ((BitVec.ofInt 64 x.1) &&& (BitVec.ofInt 64 (4294967295 : Int)))) : Nat) : Int)) * (Int.fdiv x.2 (4294967296 : Int)))))) (4294967296 : Int)))), (IntKind.wrap IntKind.u64 (x.1 * x.2))))
noncomputable abbrev mul64M_S : FnS := ⟨(.pair (.one (Ty.int IntKind.u64)) (.one (Ty.int IntKind.u64))), (.pair (.one (Ty.int IntKind.u64)) (.one (Ty.int IntKind.u64))), mul64M_pre, mul64M⟩
theorem mul64M_ok : SpecOk Tryz.prog 139 (fnSpec mul64M_S) := SpecOk.tr mul64M_S mul64M_t (fn := Tryz.f139) tt_ok sp_mul32M_ok mixed (by kernel_rfl) (ItsOk.nil _ _) (fun x => LpsOk.nil) (fun x => (by kernel_rfl)) fun x Q => (by kernel_rfl)
def sp_mul64M : List (Nat × Ev.Spec) := (139, fnSpec mul64M_S) :: sp_mul32M
theorem sp_mul64M_ok : SpecsOk Tryz.prog sp_mul64M := SpecsOk.add (fn := Tryz.f139) (by kernel_rfl) mul64M_ok sp_mul32M_ok
noncomputable def bmulM (x : I2) : I2 :=
 (letV (mul64M x) fun y =>
 y)
noncomputable def bmulM_pre (_ : I2) : Prop := True
noncomputable def bmulM_t (x : I2) : Tr I2 false :=
 (.fn0 mul64M_S x trivial fun y =>
 (.ret y))
noncomputable abbrev bmulM_S : FnS := ⟨(.pair (.one (Ty.int IntKind.u64)) (.one (Ty.int IntKind.u64))), (.pair (.one (Ty.int IntKind.u64)) (.one (Ty.int IntKind.u64))), bmulM_pre, bmulM⟩
theorem bmulM_ok : SpecOk Tryz.prog 93 (fnSpec bmulM_S) := SpecOk.tr bmulM_S bmulM_t (fn := Tryz.f93) tt_ok sp_mul64M_ok mixed (by kernel_rfl) (ItsOk.nil _ _) (fun x => LpsOk.nil) (fun x => (by kernel_rfl)) fun x Q => (by kernel_rfl)
def sp_bmulM : List (Nat × Ev.Spec) := (93, fnSpec bmulM_S) :: sp_mul64M
theorem sp_bmulM_ok : SpecsOk Tryz.prog sp_bmulM := SpecsOk.add (fn := Tryz.f93) (by kernel_rfl) bmulM_ok sp_mul64M_ok
noncomputable def repeatM_l0 (x : ((List Int) × Int)) : LoopD := ⟨[], ⟨pvs 48 0 [(7, .v (.one (.full 0))), (8, .v (.one (.i .i64)))], [.row yi 2], 0, none, [], [], [1, 0], [(.l yi), .i], []⟩, [⟨(.exit 0), .normal, ⟨pvs 48 0 [(7, .v (.one (.full 0)))], [.row yi 2], 0, none, [], [], [0], [(.l yi)], []⟩⟩]⟩
noncomputable def repeatM_l0_step (x : ((List Int) × Int)) (s : ((List Int) × Int)) : ((List Int) × Int) ⊕ (List Int) :=
 (if (s.2 < (((List.length s.1) : Nat) : Int)) then
 (letV (copyL s.1 ((Int.toNat s.2) + 0) ((List.length s.1) - (Int.toNat s.2)) (List.take (Int.toNat s.2) s.1)) fun y =>
 (Sum.inl (y, (w64 (s.2 + (((copyN ((List.length s.1) - (Int.toNat s.2)) (List.length (List.take (Int.toNat s.2) s.1))) : Nat) : Int)))))) else
 (Sum.inr (s.1)))
noncomputable def repeatM_l0_pre (x : ((List Int) × Int)) (s : ((List Int) × Int)) : Prop :=
 ((s.2 < (((List.length s.1) : Nat) : Int)) →
 ((((0 : Int) ≤ s.2) ∧ (s.2 ≤ (((List.length s.1) : Nat) : Int))) ∧
 (((0 : Int) ≤ s.2) ∧ (s.2 ≤ (((List.length s.1) : Nat) : Int)))))
noncomputable def repeatM_l0_t (x : ((List Int) × Int)) (s : ((List Int) × Int)) : Tr (((List Int) × Int) ⊕ (List Int)) true :=
 (.i10 (s.2 < (((List.length s.1) : Nat) : Int))
 (.og ((decide ((0 : Int) ≤ s.2)) && (decide (s.2 ≤ (((List.length s.1) : Nat) : Int)))) (((0 : Int) ≤ s.2) ∧ (s.2 ≤ (((List.length s.1) : Nat) : Int))) (fun h => (and_t (decide_eq_true h.1) (decide_eq_true h.2)))
 (.og ((decide ((0 : Int) ≤ s.2)) && (decide (s.2 ≤ (((List.length s.1) : Nat) : Int)))) (((0 : Int) ≤ s.2) ∧ (s.2 ≤ (((List.length s.1) : Nat) : Int))) (fun h => (and_t (decide_eq_true h.1) (decide_eq_true h.2)))
 (.lt (copyL s.1 ((Int.toNat s.2) + 0) ((List.length s.1) - (Int.toNat s.2)) (List.take (Int.toNat s.2) s.1)) fun y =>
 (.ret (.inl (y, (w64 (s.2 + (((copyN ((List.length s.1) - (Int.toNat s.2)) (List.length (List.take (Int.toNat s.2) s.1))) : Nat) : Int)))))))))
 (.ret (.inr (s.1))))
noncomputable def repeatM (x : ((List Int) × Int)) : (List Int) :=
 (if (x.2 < (0 : Int)) then
 default else
 (letV (bmulM ((IntKind.wrap IntKind.u64 (((List.length x.1) : Nat) : Int)), (IntKind.wrap IntKind.u64 x.2))) fun y =>
 (if (y.1 > (0 : Int)) then
 default else
 (if (y.2 > (9223372036854775807 : Int)) then
 default else
 (letV (copyL (List.replicate (Int.toNat (w64 y.2)) (0 : Int)) 0 (List.length (List.replicate (Int.toNat (w64 y.2)) (0 : Int))) x.1) fun y_1 =>
 (letV (run (repeatM_l0_step x) (y_1, (((copyN (List.length (List.replicate (Int.toNat (w64 y.2)) (0 : Int))) (List.length x.1)) : Nat) : Int))) fun r =>
 r))))))
noncomputable def repeatM_pre (x : ((List Int) × Int)) : Prop :=
 (((x.2 < (0 : Int)) →
 False) ∧
 (¬ (x.2 < (0 : Int)) →
 (letP (bmulM ((IntKind.wrap IntKind.u64 (((List.length x.1) : Nat) : Int)), (IntKind.wrap IntKind.u64 x.2))) fun y =>
 (((y.1 > (0 : Int)) →
 False) ∧
 (¬ (y.1 > (0 : Int)) →
 (((y.2 > (9223372036854775807 : Int)) →
 False) ∧
 (¬ (y.2 > (9223372036854775807 : Int)) →
 (((((0 : Int) ≤ (w64 y.2)) ∧ ((w64 y.2) ≤ (w64 y.2))) ∧ ((Int.toNat (w64 y.2)) < 1099511627776)) ∧
 (letP (copyL (List.replicate (Int.toNat (w64 y.2)) (0 : Int)) 0 (List.length (List.replicate (Int.toNat (w64 y.2)) (0 : Int))) x.1) fun y_1 =>
 (Term (repeatM_l0_step x) (repeatM_l0_pre x) (y_1, (((copyN (List.length (List.replicate (Int.toNat (w64 y.2)) (0 : Int))) (List.length x.1)) : Nat) : Int))))))))))))
noncomputable def repeatM_t (x : ((List Int) × Int)) : Tr (List Int) true :=
 (.i11 (x.2 < (0 : Int))
 (.og false False False.elim (.ret default))
 (.fn0 bmulM_S ((IntKind.wrap IntKind.u64 (((List.length x.1) : Nat) : Int)), (IntKind.wrap IntKind.u64 x.2)) trivial fun y =>
 (.i11 (y.1 > (0 : Int))
 (.og false False False.elim (.ret default))
 (.i11 (y.2 > (9223372036854775807 : Int))
 (.og false False False.elim (.ret default))
 (.og (((decide ((0 : Int) ≤ (w64 y.2))) && (decide ((w64 y.2) ≤ (w64 y.2)))) && (decide ((Int.toNat (w64 y.2)) < 1099511627776))) ((((0 : Int) ≤ (w64 y.2)) ∧ ((w64 y.2) ≤ (w64 y.2))) ∧ ((Int.toNat (w64 y.2)) < 1099511627776)) (fun h => (and_t (and_t (decide_eq_true h.1.1) (decide_eq_true h.1.2)) (decide_eq_true h.2)))
 (.lt (copyL (List.replicate (Int.toNat (w64 y.2)) (0 : Int)) 0 (List.length (List.replicate (Int.toNat (w64 y.2)) (0 : Int))) x.1) fun y_1 =>
 (LoopD.lp (repeatM_l0 x) (repeatM_l0_t x) (y_1, (((copyN (List.length (List.replicate (Int.toNat (w64 y.2)) (0 : Int))) (List.length x.1)) : Nat) : Int)) fun r =>
 (.ret r))))))))
noncomputable abbrev repeatM_S : FnS := ⟨(.pair (.one (Ty.sl yi)) (.one yi)), (.one (Ty.sl yi)), repeatM_pre, repeatM⟩
theorem repeatM_ok : SpecOk Tryz.prog 49 (fnSpec repeatM_S) := SpecOk.tr repeatM_S repeatM_t (fn := Tryz.f49) tt_ok sp_bmulM_ok mixed (by kernel_rfl) (ItsOk.nil _ _) (fun x => (LpsOk.tr tt_ok (SpecsOk.ctxI sp_bmulM_ok (ItsOk.nil _ _)) mixed 0 (repeatM_l0 x) (repeatM_l0_t x) LpsOk.nil (by kernel_rfl) fun g s Q => (by kernel_rfl))) (fun x => (by kernel_rfl)) fun x Q => (by kernel_rfl)
def sp_repeatM : List (Nat × Ev.Spec) := (49, fnSpec repeatM_S) :: sp_bmulM
theorem sp_repeatM_ok : SpecsOk Tryz.prog sp_repeatM := SpecsOk.add (fn := Tryz.f49) (by kernel_rfl) repeatM_ok sp_bmulM_ok
noncomputable def indexI_l0 (x : ((List Int) × Int)) : LoopD := ⟨[], ⟨pvs 19 0 [(0, .v (.one (.full 0))), (1, .v (.one (.i .i64))), (7, .v (.one (.i .i64))), (8, .v (.one (.i .i64)))], [.row yi 0], 0, none, [], [0, 1, 3], [2], [.i], [.i x.2, .i (((List.length x.1) : Nat) : Int), .l yi x.1]⟩, [⟨.ret, .ret, ⟨pvs 19 0 [(4, .v (.one (.i .i64)))], [], 0, none, [], [], [0], [.i], []⟩⟩, ⟨(.exit 0), .normal, ⟨pvs 19 0 [], [], 0, none, [], [], [], [], []⟩⟩]⟩
noncomputable def indexI_l0_step (x : ((List Int) × Int)) (s : Int) : Int ⊕ (Int ⊕ Unit) :=
 (if (s < (((List.length x.1) : Nat) : Int)) then
 (if ((x.2 == (List.getD x.1 (Int.toNat s) (0 : Int))) = true) then
 (Sum.inr (Sum.inl s)) else
 (Sum.inl (w64 (s + (1 : Int))))) else
 (Sum.inr (Sum.inr (()))))
noncomputable def indexI_l0_pre (x : ((List Int) × Int)) (s : Int) : Prop :=
 ((s < (((List.length x.1) : Nat) : Int)) →
 ((((0 : Int) ≤ s) ∧ (s < (((List.length x.1) : Nat) : Int))) ∧
 (((Int.toNat s) < (List.length x.1)) ∧
 ((Int.toNat s) < (List.length x.1)))))
noncomputable def indexI_l0_t (x : ((List Int) × Int)) (s : Int) : Tr (Int ⊕ (Int ⊕ Unit)) true :=
 (.i10 (s < (((List.length x.1) : Nat) : Int))
 (.oR s (((List.length x.1) : Nat) : Int)
 (.od ((Int.toNat s) < (List.length x.1))
 (.od ((Int.toNat s) < (List.length x.1))
 (.b00 (x.2 == (List.getD x.1 (Int.toNat s) (0 : Int)))
 (.ret (.inr (Sum.inl s)))
 (.ret (.inl (w64 (s + (1 : Int)))))))))
 (.ret (.inr (Sum.inr (())))))
noncomputable def indexI (x : ((List Int) × Int)) : Int :=
 (letV (run (indexI_l0_step x) (0 : Int)) fun r =>
 (Sum.elim (fun a =>
 a) (fun b =>
 (-1 : Int)) r))
noncomputable def indexI_pre (x : ((List Int) × Int)) : Prop :=
 (Term (indexI_l0_step x) (indexI_l0_pre x) (0 : Int))
noncomputable def indexI_t (x : ((List Int) × Int)) : Tr Int true :=
 (LoopD.lp (indexI_l0 x) (indexI_l0_t x) (0 : Int) fun r =>
 (.s00 r (fun a =>
 (.ret a)) (fun b =>
 (.ret (-1 : Int)))))
noncomputable abbrev indexI_S : FnS := ⟨(.pair (.one (Ty.sl yi)) (.one yi)), (.one yi), indexI_pre, indexI⟩
theorem indexI_ok : SpecOk Tryz.prog 55 (fnSpec indexI_S) := SpecOk.tr indexI_S indexI_t (fn := Tryz.f55) tt_ok sp_repeatM_ok mixed (by kernel_rfl) (ItsOk.nil _ _) (fun x => (LpsOk.tr tt_ok (SpecsOk.ctxI sp_repeatM_ok (ItsOk.nil _ _)) mixed 0 (indexI_l0 x) (indexI_l0_t x) LpsOk.nil (by kernel_rfl) fun g s Q => (by kernel_rfl))) (fun x => (by kernel_rfl)) fun x Q => (by kernel_rfl)
def sp_indexI : List (Nat × Ev.Spec) := (55, fnSpec indexI_S) :: sp_repeatM
theorem sp_indexI_ok : SpecsOk Tryz.prog sp_indexI := SpecsOk.add (fn := Tryz.f55) (by kernel_rfl) indexI_ok sp_repeatM_ok
end Go.Proofs.YtfgdjlhilladhaaGreat
