/- Models of tree's functions: split. -/
import Derived.Test.YtaipcbdilkcdbaaTp
noncomputable section
set_option linter.unusedSectionVars false
set_option linter.unusedVariables false
set_option linter.unusedSimpArgs false
namespace Go.Proofs.Ytaipcbdilkcdbaa
open Go Go.Ev Go.Proofs
def within_l0 (x : (Int × (List Int))) : LoopD := ⟨[],⟨pvs 23 0 [(0,.v (.one (.i .i64))),(7,.v (.one (.full 0))),(8,.v (.one (.i .i64))),(9,.v (.one (.i .i64)))],[.row yi 0],0,none,[],[0,1,3],[2],[.i],[.i x.1,.i (x.2.length:Int),.l yi x.2]⟩,[⟨.ret,.ret,⟨pvs 23 0 [(4,.v (.one (.b)))],[],0,none,[],[0],[],[],[.b false]⟩⟩,⟨(.exit 0),.normal,⟨pvs 23 0 [],[],0,none,[],[],[],[],[]⟩⟩]⟩
def within_l0_step (x : (Int × (List Int))) (s:Int) : Int ⊕ (Unit ⊕ Unit) :=
 (if (s < (x.2.length:Int)) then
 (if ((List.getD x.2 (Int.toNat s) (0:Int)) < (w64 ((0:Int) - x.1))) then
 (Sum.inr (Sum.inl ())) else
 (if ((List.getD x.2 (Int.toNat s) (0:Int)) > x.1) then
 (Sum.inr (Sum.inl ())) else
 (Sum.inl (w64 (s + (1:Int)))))) else
 (Sum.inr (Sum.inr (()))))
def within_l0_pre (x : (Int × (List Int))) (s:Int) : Prop :=
 ((s < (x.2.length:Int)) →
 ((((0:Int) ≤ s) ∧ (s < (x.2.length:Int))) ∧
 (((Int.toNat s) < (List.length x.2)) ∧
 ((Int.toNat s) < (List.length x.2)))))
def within_l0_t (x : (Int × (List Int))) (s:Int) : Tr (Int ⊕ (Unit ⊕ Unit)) true :=
 (.i10 (s < (nL x.2))
 (.oI2 s x.2
 (.i00 ((gI x.2 s) < (w64 (z0 - x.1)))
 (.ret (.inr (Sum.inl ())))
 (.i00 ((gI x.2 s) > x.1)
 (.ret (.inr (Sum.inl ())))
 (.ret (.inl (w1 s))))))
 (.ret (.inr (Sum.inr (())))))
def within (x : (Int × (List Int))) : Bool :=
 (letV (run (within_l0_step x) (0:Int)) fun r =>
 (Sum.elim (fun a =>
 false) (fun b =>
 true) r))
def within_pre (x : (Int × (List Int))) : Prop :=
 (Term (within_l0_step x) (within_l0_pre x) (0:Int))
def within_t (x : (Int × (List Int))) : Tr Bool true :=
 (LoopD.lp (within_l0 x) (within_l0_t x) z0 fun r =>
 (.s00 r (fun a =>
 (.ret false)) (fun b =>
 (.ret true))))
abbrev within_S : FnS := ⟨(.pair (.one yi) (.one (Ty.sl yi))),(.one Ty.bool),within_pre,within⟩
theorem within_ok : SpecOk Try.prog 47 (fnSpec within_S) := SpecOk.tr within_S within_t (fn := Try.f47) tt_ok sp_sortM_ok mixed (by kernel_rfl) (ItsOk.nil _ _) (fun x => (LpsOk.tr tt_ok (SpecsOk.ctxI sp_sortM_ok (ItsOk.nil _ _)) mixed 0 (within_l0 x) (within_l0_t x) LpsOk.nil (by kernel_rfl) fun g s Q => (by kernel_rfl))) (fun x => (by kernel_rfl)) fun x Q => (by kernel_rfl)
def sp_within : List (Nat × Ev.Spec) := (47,fnSpec within_S) :: sp_sortM
theorem sp_within_ok : SpecsOk Try.prog sp_within := SpecsOk.add (fn := Try.f47) (by kernel_rfl) within_ok sp_sortM_ok
def small3_l0 (x : (List I3)) : LoopD := ⟨[],⟨pvs 21 0 [(5,.v (.one (.full 0))),(6,.v (.one (.i .i64))),(7,.v (.one (.i .i64)))],[.row yy3 0],0,none,[],[0,2],[1],[.i],[.i (x.length:Int),.l yy3 x]⟩,[⟨.ret,.ret,⟨pvs 21 0 [(2,.v (.one (.b)))],[],0,none,[],[0],[],[],[.b false]⟩⟩,⟨(.exit 0),.normal,⟨pvs 21 0 [],[],0,none,[],[],[],[],[]⟩⟩]⟩
def small3_l0_step (x : (List I3)) (s:Int) : Int ⊕ (Unit ⊕ Unit) :=
 (if (s < (x.length:Int)) then
 (letV (within ((16384:Int),[(List.getD x (Int.toNat s) ((0:Int),((0:Int),(0:Int)))).1,(List.getD x (Int.toNat s) ((0:Int),((0:Int),(0:Int)))).2.1,(List.getD x (Int.toNat s) ((0:Int),((0:Int),(0:Int)))).2.2])) fun y =>
 (if ((!y) = true) then
 (Sum.inr (Sum.inl ())) else
 (Sum.inl (w64 (s + (1:Int)))))) else
 (Sum.inr (Sum.inr (()))))
def small3_l0_pre (x : (List I3)) (s:Int) : Prop :=
 ((s < (x.length:Int)) →
 ((((0:Int) ≤ s) ∧ (s < (x.length:Int))) ∧
 (((Int.toNat s) < (List.length x)) ∧
 (((Int.toNat s) < (List.length x)) ∧
 (within_pre ((16384:Int),[(List.getD x (Int.toNat s) ((0:Int),((0:Int),(0:Int)))).1,(List.getD x (Int.toNat s) ((0:Int),((0:Int),(0:Int)))).2.1,(List.getD x (Int.toNat s) ((0:Int),((0:Int),(0:Int)))).2.2]))))))
def small3_l0_t (x : (List I3)) (s:Int) : Tr (Int ⊕ (Unit ⊕ Unit)) true :=
 (.i10 (s < (nL x))
 (.oI2 s x
 (.fn within_S ((16384:Int),[(gT x s zz3).1,(gT x s zz3).2.1,(gT x s zz3).2.2]) fun y =>
 (.b00 (!y)
 (.ret (.inr (Sum.inl ())))
 (.ret (.inl (w1 s))))))
 (.ret (.inr (Sum.inr (())))))
def small3 (x : (List I3)) : Bool :=
 (letV (run (small3_l0_step x) (0:Int)) fun r =>
 (Sum.elim (fun a =>
 false) (fun b =>
 true) r))
def small3_pre (x : (List I3)) : Prop :=
 (Term (small3_l0_step x) (small3_l0_pre x) (0:Int))
def small3_t (x : (List I3)) : Tr Bool true :=
 (LoopD.lp (small3_l0 x) (small3_l0_t x) z0 fun r =>
 (.s00 r (fun a =>
 (.ret false)) (fun b =>
 (.ret true))))
abbrev small3_S : FnS := ⟨(.one (Ty.sl yy3)),(.one Ty.bool),small3_pre,small3⟩
theorem small3_ok : SpecOk Try.prog 35 (fnSpec small3_S) := SpecOk.tr small3_S small3_t (fn := Try.f35) tt_ok sp_within_ok mixed (by kernel_rfl) (ItsOk.nil _ _) (fun x => (LpsOk.tr tt_ok (SpecsOk.ctxI sp_within_ok (ItsOk.nil _ _)) mixed 0 (small3_l0 x) (small3_l0_t x) LpsOk.nil (by kernel_rfl) fun g s Q => (by kernel_rfl))) (fun x => (by kernel_rfl)) fun x Q => (by kernel_rfl)
def sp_small3 : List (Nat × Ev.Spec) := (35,fnSpec small3_S) :: sp_within
theorem sp_small3_ok : SpecsOk Try.prog sp_small3 := SpecsOk.add (fn := Try.f35) (by kernel_rfl) small3_ok sp_within_ok
def smallT (x : I9) : Bool :=
 (letV (small3 [x.1,x.2.1,x.2.2]) fun y =>
 (!y))
def smallT_pre (x : I9) : Prop :=
 (small3_pre [x.1,x.2.1,x.2.2])
def smallT_t (x : I9) : Tr Bool true :=
 (.fn small3_S [x.1,x.2.1,x.2.2] fun y =>
 (.ret (!y)))
abbrev smallT_S : FnS := ⟨(.agg yy9),(.one Ty.bool),smallT_pre,smallT⟩
theorem smallT_ok : SpecOk Try.prog 34 (fnSpec smallT_S) := SpecOk.tr smallT_S smallT_t (fn := Try.f34) tt_ok sp_small3_ok mixed (by kernel_rfl) (ItsOk.nil _ _) (fun x => LpsOk.nil) (fun x => (by kernel_rfl)) fun x Q => (by kernel_rfl)
def sp_smallT : List (Nat × Ev.Spec) := (34,fnSpec smallT_S) :: sp_small3
theorem sp_smallT_ok : SpecsOk Try.prog sp_smallT := SpecsOk.add (fn := Try.f34) (by kernel_rfl) smallT_ok sp_small3_ok
def indexT_l0 (x : ((List I9) × Bool)) : LoopD := ⟨[],⟨pvs 19 0 [(0,.v (.one (.full 0))),(1,.v (.one (.clo 34 0 []))),(7,.v (.one (.i .i64))),(8,.v (.one (.i .i64)))],[.row yy9 0],0,none,[],[0,2],[1],[.i],[.i (x.1.length:Int),.l yy9 x.1]⟩,[⟨.ret,.ret,⟨pvs 19 0 [(4,.v (.one (.i .i64)))],[],0,none,[],[],[0],[.i],[]⟩⟩,⟨(.exit 0),.normal,⟨pvs 19 0 [],[],0,none,[],[],[],[],[]⟩⟩]⟩
def indexT_l0_step (x : ((List I9) × Bool)) (s:Int) : Int ⊕ (Int ⊕ Unit) :=
 (if (s < (x.1.length:Int)) then
 (letV (smallT (List.getD x.1 (Int.toNat s) (((0:Int),((0:Int),(0:Int))),(((0:Int),((0:Int),(0:Int))),((0:Int),((0:Int),(0:Int))))))) fun y =>
 (if (y = true) then
 (Sum.inr (Sum.inl s)) else
 (Sum.inl (w64 (s + (1:Int)))))) else
 (Sum.inr (Sum.inr (()))))
def indexT_l0_pre (x : ((List I9) × Bool)) (s:Int) : Prop :=
 ((s < (x.1.length:Int)) →
 ((((0:Int) ≤ s) ∧ (s < (x.1.length:Int))) ∧
 (((Int.toNat s) < (List.length x.1)) ∧
 (((Int.toNat s) < (List.length x.1)) ∧
 (smallT_pre (List.getD x.1 (Int.toNat s) (((0:Int),((0:Int),(0:Int))),(((0:Int),((0:Int),(0:Int))),((0:Int),((0:Int),(0:Int)))))))))))
def indexT_l0_t (x : ((List I9) × Bool)) (s:Int) : Tr (Int ⊕ (Int ⊕ Unit)) true :=
 (.i10 (s < (nL x.1))
 (.oI2 s x.1
 (.fn smallT_S (gT x.1 s zz9) fun y =>
 (.b00 y
 (.ret (.inr (Sum.inl s)))
 (.ret (.inl (w1 s))))))
 (.ret (.inr (Sum.inr (())))))
def indexT (x : ((List I9) × Bool)) : Int :=
 (letV (run (indexT_l0_step x) (0:Int)) fun r =>
 (Sum.elim (fun a =>
 a) (fun b =>
 (-1:Int)) r))
def indexT_pre (x : ((List I9) × Bool)) : Prop :=
 (Term (indexT_l0_step x) (indexT_l0_pre x) (0:Int))
def indexT_t (x : ((List I9) × Bool)) : Tr Int true :=
 (LoopD.lp (indexT_l0 x) (indexT_l0_t x) z0 fun r =>
 (.s00 r (fun a =>
 (.ret a)) (fun b =>
 (.ret (-1:Int)))))
abbrev indexT_S : FnS := ⟨(.pair (.one (Ty.sl yy9)) (.clo 34 .none)),(.one yi),indexT_pre,indexT⟩
theorem indexT_ok : SpecOk Try.prog 46 (fnSpec indexT_S) := SpecOk.tr indexT_S indexT_t (fn := Try.f46) tt_ok sp_smallT_ok mixed (by kernel_rfl) (ItsOk.nil _ _) (fun x => (LpsOk.tr tt_ok (SpecsOk.ctxI sp_smallT_ok (ItsOk.nil _ _)) mixed 0 (indexT_l0 x) (indexT_l0_t x) LpsOk.nil (by kernel_rfl) fun g s Q => (by kernel_rfl))) (fun x => (by kernel_rfl)) fun x Q => (by kernel_rfl)
def sp_indexT : List (Nat × Ev.Spec) := (46,fnSpec indexT_S) :: sp_smallT
theorem sp_indexT_ok : SpecsOk Try.prog sp_indexT := SpecsOk.add (fn := Try.f46) (by kernel_rfl) indexT_ok sp_smallT_ok
def containsT (x : ((List I9) × Bool)) : Bool :=
 (letV (indexT (x.1,false)) fun y =>
 (decide (y ≥ (0:Int))))
def containsT_pre (x : ((List I9) × Bool)) : Prop :=
 (indexT_pre (x.1,false))
def containsT_t (x : ((List I9) × Bool)) : Tr Bool true :=
 (.fn indexT_S (x.1,false) fun y =>
 (.ret (decide (y ≥ z0))))
abbrev containsT_S : FnS := ⟨(.pair (.one (Ty.sl yy9)) (.clo 34 .none)),(.one Ty.bool),containsT_pre,containsT⟩
theorem containsT_ok : SpecOk Try.prog 33 (fnSpec containsT_S) := SpecOk.tr containsT_S containsT_t (fn := Try.f33) tt_ok sp_indexT_ok mixed (by kernel_rfl) (ItsOk.nil _ _) (fun x => LpsOk.nil) (fun x => (by kernel_rfl)) fun x Q => (by kernel_rfl)
def sp_containsT : List (Nat × Ev.Spec) := (33,fnSpec containsT_S) :: sp_indexT
theorem sp_containsT_ok : SpecsOk Try.prog sp_containsT := SpecsOk.add (fn := Try.f33) (by kernel_rfl) containsT_ok sp_indexT_ok
def smallF (x : (List I9)) : Bool :=
 (letV (containsT (x,false)) fun y =>
 (!y))
def smallF_pre (x : (List I9)) : Prop :=
 (containsT_pre (x,false))
def smallF_t (x : (List I9)) : Tr Bool true :=
 (.fn containsT_S (x,false) fun y =>
 (.ret (!y)))
abbrev smallF_S : FnS := ⟨(.one (Ty.sl yy9)),(.one Ty.bool),smallF_pre,smallF⟩
theorem smallF_ok : SpecOk Try.prog 15 (fnSpec smallF_S) := SpecOk.tr smallF_S smallF_t (fn := Try.f15) tt_ok sp_containsT_ok mixed (by kernel_rfl) (ItsOk.nil _ _) (fun x => LpsOk.nil) (fun x => (by kernel_rfl)) fun x Q => (by kernel_rfl)
def sp_smallF : List (Nat × Ev.Spec) := (15,fnSpec smallF_S) :: sp_containsT
theorem sp_smallF_ok : SpecsOk Try.prog sp_smallF := SpecsOk.add (fn := Try.f15) (by kernel_rfl) smallF_ok sp_containsT_ok
def cloneI (x : (List Int)) : (List Int) :=
 ((List.replicate 0 (0:Int)) ++ x)
def cloneI_pre (x : (List Int)) : Prop :=
 (∀ b : Bool,((0 < (List.length x)) → (b = false)) → (((if (b = true) then
 [] else
 ((List.replicate 0 (0:Int)) ++ x)) = ((List.replicate 0 (0:Int)) ++ x)) ∧ (¬ (b = true) →
 ((0 + (List.length x)) < 1099511627776))))
def cloneI_t (x : (List Int)) : Tr (List Int) true :=
 (.nil (fun b => ((0 < (List.length x)) → (b = false))) fun b =>
 (.b01 b
 (.ret [])
 (.od ((0 + (List.length x)) < 1099511627776)
 (.ret ((List.replicate 0 z0) ++ x)))))
abbrev cloneI_S : FnS := ⟨(.one (Ty.sl yi)),(.one (Ty.sl yi)),cloneI_pre,cloneI⟩
theorem cloneI_ok : SpecOk Try.prog 18 (fnSpec cloneI_S) := SpecOk.tr cloneI_S cloneI_t (fn := Try.f18) tt_ok sp_smallF_ok mixed (by kernel_rfl) (ItsOk.dead 18 (fn := Try.f18) (by kernel_rfl)) (fun x => LpsOk.nil) (fun x => (by kernel_rfl)) fun x Q => (by kernel_rfl)
def sp_cloneI : List (Nat × Ev.Spec) := (18,fnSpec cloneI_S) :: sp_smallF
theorem sp_cloneI_ok : SpecsOk Try.prog sp_cloneI := SpecsOk.add (fn := Try.f18) (by kernel_rfl) cloneI_ok sp_smallF_ok
def point (x : I3) : I3 :=
 x
def point_pre (_ : I3) : Prop := True
def point_t (x : I3) : Tr I3 false :=
 (.ret x)
abbrev point_S : FnS := ⟨(.agg yy3),(.agg yy3),point_pre,point⟩
theorem point_ok : SpecOk Try.prog 45 (fnSpec point_S) := SpecOk.tr point_S point_t (fn := Try.f45) tt_ok sp_cloneI_ok mixed (by kernel_rfl) (ItsOk.nil _ _) (fun x => LpsOk.nil) (fun x => (by kernel_rfl)) fun x Q => (by kernel_rfl)
def sp_point : List (Nat × Ev.Spec) := (45,fnSpec point_S) :: sp_cloneI
theorem sp_point_ok : SpecsOk Try.prog sp_point := SpecsOk.add (fn := Try.f45) (by kernel_rfl) point_ok sp_cloneI_ok
def parts (x : I3) : I3 :=
 x
def parts_pre (_ : I3) : Prop := True
def parts_t (x : I3) : Tr I3 false :=
 (.ret x)
abbrev parts_S : FnS := ⟨(.agg yy3),(.agg yy3),parts_pre,parts⟩
theorem parts_ok : SpecOk Try.prog 44 (fnSpec parts_S) := SpecOk.tr parts_S parts_t (fn := Try.f44) tt_ok sp_point_ok mixed (by kernel_rfl) (ItsOk.nil _ _) (fun x => LpsOk.nil) (fun x => (by kernel_rfl)) fun x Q => (by kernel_rfl)
def sp_parts : List (Nat × Ev.Spec) := (44,fnSpec parts_S) :: sp_point
theorem sp_parts_ok : SpecsOk Try.prog sp_parts := SpecsOk.add (fn := Try.f44) (by kernel_rfl) parts_ok sp_point_ok
def hasB (x : ((I3 × I3) × I3)) : Bool :=
 (letV (parts x.1.1) fun y =>
 (letV (parts x.1.2) fun y_1 =>
 (letV (parts x.2) fun y_2 =>
 (if (y_2.1 < y.1) then
 false else
 (if (y_2.1 > y_1.1) then
 false else
 (if (y_2.2.1 < y.2.1) then
 false else
 (if (y_2.2.1 > y_1.2.1) then
 false else
 (if (y_2.2.2 < y.2.2) then
 false else
 (if (y_2.2.2 > y_1.2.2) then
 false else
 true)))))))))
def hasB_pre (_ : ((I3 × I3) × I3)) : Prop := True
def hasB_t (x : ((I3 × I3) × I3)) : Tr Bool false :=
 (.fn0 parts_S x.1.1 trivial fun y =>
 (.fn0 parts_S x.1.2 trivial fun y_1 =>
 (.fn0 parts_S x.2 trivial fun y_2 =>
 (.i00 (y_2.1 < y.1)
 (.ret false)
 (.i00 (y_2.1 > y_1.1)
 (.ret false)
 (.i00 (y_2.2.1 < y.2.1)
 (.ret false)
 (.i00 (y_2.2.1 > y_1.2.1)
 (.ret false)
 (.i00 (y_2.2.2 < y.2.2)
 (.ret false)
 (.i00 (y_2.2.2 > y_1.2.2)
 (.ret false)
 (.ret true))))))))))
abbrev hasB_S : FnS := ⟨(.pair (.agg (Ty.prod yy3 yy3)) (.agg yy3)),(.one Ty.bool),hasB_pre,hasB⟩
theorem hasB_ok : SpecOk Try.prog 31 (fnSpec hasB_S) := SpecOk.tr hasB_S hasB_t (fn := Try.f31) tt_ok sp_parts_ok mixed (by kernel_rfl) (ItsOk.nil _ _) (fun x => (LpsOk.unrollT tt_ok (SpecsOk.ctxI sp_parts_ok (ItsOk.nil _ _)) mixed 0 4 LpsOk.nil (by kernel_rfl))) (fun x => (by kernel_rfl)) fun x Q => (by kernel_rfl)
def sp_hasB : List (Nat × Ev.Spec) := (31,fnSpec hasB_S) :: sp_parts
theorem sp_hasB_ok : SpecsOk Try.prog sp_hasB := SpecsOk.add (fn := Try.f31) (by kernel_rfl) hasB_ok sp_parts_ok
def slabIs (x : (I3 × I3)) : Bool :=
 (letV (small3 [x.1,x.2]) fun y =>
 (if (y = true) then
 (letV (hasB (x,x.1)) fun y_1 =>
 y_1) else
 false))
def slabIs_pre (x : (I3 × I3)) : Prop :=
 (small3_pre [x.1,x.2])
def slabIs_t (x : (I3 × I3)) : Tr Bool true :=
 (.fn small3_S [x.1,x.2] fun y =>
 (.b00 y
 (.fn0 hasB_S (x,x.1) trivial fun y_1 =>
 (.ret y_1))
 (.ret false)))
abbrev slabIs_S : FnS := ⟨(.agg (Ty.prod yy3 yy3)),(.one Ty.bool),slabIs_pre,slabIs⟩
theorem slabIs_ok : SpecOk Try.prog 30 (fnSpec slabIs_S) := SpecOk.tr slabIs_S slabIs_t (fn := Try.f30) tt_ok sp_hasB_ok mixed (by kernel_rfl) (ItsOk.nil _ _) (fun x => LpsOk.nil) (fun x => (by kernel_rfl)) fun x Q => (by kernel_rfl)
def sp_slabIs : List (Nat × Ev.Spec) := (30,fnSpec slabIs_S) :: sp_hasB
theorem sp_slabIs_ok : SpecsOk Try.prog sp_slabIs := SpecsOk.add (fn := Try.f30) (by kernel_rfl) slabIs_ok sp_hasB_ok
def slabOf_l3 (x : (List I3)) : LoopD := ⟨[],⟨pvs 64 0 [(2,.v (.one (.ptr 0 0))),(4,.v (.one (.ptr 1 0))),(5,.v (.one (.ptr 2 0))),(8,.v (.one (.ptr 3 0))),(28,.v (.one (.full 4))),(29,.v (.one (.i .i64))),(30,.v (.one (.i .i64))),(36,.v (.one (.i .i64)))],[.cells [.i .i64,.i .i64,.i .i64,.i .i64,.i .i64,.i .i64] 32,.cells [.i .i64,.i .i64,.i .i64] 83,.cells [.i .i64,.i .i64,.i .i64] 83,.cells [.i .i64,.i .i64,.i .i64] 83,.row yy3 0],0,none,[],[0,3,4,5,6,7,8,18],[9,10,11,12,13,14,15,16,17,1,2],[.i,.i,.i,.i,.i,.i,.i,.i,.i,.i,.i],[.i (x.length:Int),.i (0:Int),.i (0:Int),.i (0:Int),.i (0:Int),.i (0:Int),.i (0:Int),.l yy3 x]⟩,[⟨(.exit 3),.normal,⟨pvs 64 0 [(2,.v (.one (.ptr 0 0))),(4,.v (.one (.ptr 1 0))),(5,.v (.one (.ptr 2 0))),(28,.v (.one (.full 3))),(29,.v (.one (.i .i64))),(30,.v (.one (.i .i64)))],[.cells [.i .i64,.i .i64,.i .i64,.i .i64,.i .i64,.i .i64] 32,.cells [.i .i64,.i .i64,.i .i64] 83,.cells [.i .i64,.i .i64,.i .i64] 83,.row yy3 0],0,none,[],[0,2,3,4,5,6,7,14],[8,9,10,11,12,13,1],[.i,.i,.i,.i,.i,.i,.i],[.i (x.length:Int),.i (0:Int),.i (0:Int),.i (0:Int),.i (0:Int),.i (0:Int),.i (0:Int),.l yy3 x]⟩⟩]⟩
def slabOf_l3_step (x : (List I3)) (s : (Int × (Int × (Int × (Int × (Int × (Int × (Int × (Int × I3))))))))) : (Int × (Int × (Int × (Int × (Int × (Int × (Int × (Int × I3)))))))) ⊕ (Int × (Int × (Int × (Int × I3)))) :=
 (if (s.2.2.2.2.2.2.2.2.2.2 < (3:Int)) then
 (Sum.inl ((cond (Nat.beq (0 + ((Int.toNat s.2.2.2.2.2.2.2.2.2.2) * 1)) 0) (minI (List.getD [s.1,s.2.1,s.2.2.1] (0 + ((Int.toNat s.2.2.2.2.2.2.2.2.2.2) * 1)) (0:Int)) (List.getD [s.2.2.2.2.2.2.1,s.2.2.2.2.2.2.2.1,s.2.2.2.2.2.2.2.2.1] (0 + ((Int.toNat s.2.2.2.2.2.2.2.2.2.2) * 1)) (0:Int))) s.1),((cond (Nat.beq (0 + ((Int.toNat s.2.2.2.2.2.2.2.2.2.2) * 1)) 1) (minI (List.getD [s.1,s.2.1,s.2.2.1] (0 + ((Int.toNat s.2.2.2.2.2.2.2.2.2.2) * 1)) (0:Int)) (List.getD [s.2.2.2.2.2.2.1,s.2.2.2.2.2.2.2.1,s.2.2.2.2.2.2.2.2.1] (0 + ((Int.toNat s.2.2.2.2.2.2.2.2.2.2) * 1)) (0:Int))) s.2.1),((cond (Nat.beq (0 + ((Int.toNat s.2.2.2.2.2.2.2.2.2.2) * 1)) 2) (minI (List.getD [s.1,s.2.1,s.2.2.1] (0 + ((Int.toNat s.2.2.2.2.2.2.2.2.2.2) * 1)) (0:Int)) (List.getD [s.2.2.2.2.2.2.1,s.2.2.2.2.2.2.2.1,s.2.2.2.2.2.2.2.2.1] (0 + ((Int.toNat s.2.2.2.2.2.2.2.2.2.2) * 1)) (0:Int))) s.2.2.1),((cond (Nat.beq (0 + ((Int.toNat s.2.2.2.2.2.2.2.2.2.2) * 1)) 0) (maxI (List.getD [s.2.2.2.1,s.2.2.2.2.1,s.2.2.2.2.2.1] (0 + ((Int.toNat s.2.2.2.2.2.2.2.2.2.2) * 1)) (0:Int)) (List.getD [s.2.2.2.2.2.2.1,s.2.2.2.2.2.2.2.1,s.2.2.2.2.2.2.2.2.1] (0 + ((Int.toNat s.2.2.2.2.2.2.2.2.2.2) * 1)) (0:Int))) s.2.2.2.1),((cond (Nat.beq (0 + ((Int.toNat s.2.2.2.2.2.2.2.2.2.2) * 1)) 1) (maxI (List.getD [s.2.2.2.1,s.2.2.2.2.1,s.2.2.2.2.2.1] (0 + ((Int.toNat s.2.2.2.2.2.2.2.2.2.2) * 1)) (0:Int)) (List.getD [s.2.2.2.2.2.2.1,s.2.2.2.2.2.2.2.1,s.2.2.2.2.2.2.2.2.1] (0 + ((Int.toNat s.2.2.2.2.2.2.2.2.2.2) * 1)) (0:Int))) s.2.2.2.2.1),((cond (Nat.beq (0 + ((Int.toNat s.2.2.2.2.2.2.2.2.2.2) * 1)) 2) (maxI (List.getD [s.2.2.2.1,s.2.2.2.2.1,s.2.2.2.2.2.1] (0 + ((Int.toNat s.2.2.2.2.2.2.2.2.2.2) * 1)) (0:Int)) (List.getD [s.2.2.2.2.2.2.1,s.2.2.2.2.2.2.2.1,s.2.2.2.2.2.2.2.2.1] (0 + ((Int.toNat s.2.2.2.2.2.2.2.2.2.2) * 1)) (0:Int))) s.2.2.2.2.2.1),(s.2.2.2.2.2.2.1,(s.2.2.2.2.2.2.2.1,(s.2.2.2.2.2.2.2.2.1,(s.2.2.2.2.2.2.2.2.2.1,(w64 (s.2.2.2.2.2.2.2.2.2.2 + (1:Int)))))))))))))) else
 (Sum.inr ((s.1,(s.2.1,(s.2.2.1,(s.2.2.2.1,(s.2.2.2.2.1,(s.2.2.2.2.2.1,s.2.2.2.2.2.2.2.2.2.1)))))))))
def slabOf_l3_pre (x : (List I3)) (s : (Int × (Int × (Int × (Int × (Int × (Int × (Int × (Int × I3))))))))) : Prop :=
 ((s.2.2.2.2.2.2.2.2.2.2 < (3:Int)) →
 ((((0:Int) ≤ s.2.2.2.2.2.2.2.2.2.2) ∧ (s.2.2.2.2.2.2.2.2.2.2 < (3:Int))) ∧
 ((((0 + ((Int.toNat s.2.2.2.2.2.2.2.2.2.2) * 1)) + 1) ≤ 3) ∧
 ((((0:Int) ≤ s.2.2.2.2.2.2.2.2.2.2) ∧ (s.2.2.2.2.2.2.2.2.2.2 < (3:Int))) ∧
 ((((0 + ((Int.toNat s.2.2.2.2.2.2.2.2.2.2) * 1)) + 1) ≤ 3) ∧
 ((((0:Int) ≤ s.2.2.2.2.2.2.2.2.2.2) ∧ (s.2.2.2.2.2.2.2.2.2.2 < (3:Int))) ∧
 ((((0 + ((Int.toNat s.2.2.2.2.2.2.2.2.2.2) * 1)) + 1) ≤ 3) ∧
 ((((0:Int) ≤ s.2.2.2.2.2.2.2.2.2.2) ∧ (s.2.2.2.2.2.2.2.2.2.2 < (3:Int))) ∧
 ((((0 + ((Int.toNat s.2.2.2.2.2.2.2.2.2.2) * 1)) + 1) ≤ 3) ∧
 ((((0:Int) ≤ s.2.2.2.2.2.2.2.2.2.2) ∧ (s.2.2.2.2.2.2.2.2.2.2 < (3:Int))) ∧
 ((((0 + ((Int.toNat s.2.2.2.2.2.2.2.2.2.2) * 1)) + 1) ≤ 3) ∧
 ((((0:Int) ≤ s.2.2.2.2.2.2.2.2.2.2) ∧ (s.2.2.2.2.2.2.2.2.2.2 < (3:Int))) ∧
 (((0 + ((Int.toNat s.2.2.2.2.2.2.2.2.2.2) * 1)) + 1) ≤ 3)))))))))))))
def slabOf_l3_t (x : (List I3)) (s : (Int × (Int × (Int × (Int × (Int × (Int × (Int × (Int × I3))))))))) : Tr ((Int × (Int × (Int × (Int × (Int × (Int × (Int × (Int × I3)))))))) ⊕ (Int × (Int × (Int × (Int × I3))))) true :=
 (.i10 (s.2.2.2.2.2.2.2.2.2.2 < (3:Int))
 (.oR s.2.2.2.2.2.2.2.2.2.2 (3:Int)
 (.od (((0 + ((tN s.2.2.2.2.2.2.2.2.2.2) * 1)) + 1) ≤ 3)
 (.oR s.2.2.2.2.2.2.2.2.2.2 (3:Int)
 (.od (((0 + ((tN s.2.2.2.2.2.2.2.2.2.2) * 1)) + 1) ≤ 3)
 (.oR s.2.2.2.2.2.2.2.2.2.2 (3:Int)
 (.od (((0 + ((tN s.2.2.2.2.2.2.2.2.2.2) * 1)) + 1) ≤ 3)
 (.oR s.2.2.2.2.2.2.2.2.2.2 (3:Int)
 (.od (((0 + ((tN s.2.2.2.2.2.2.2.2.2.2) * 1)) + 1) ≤ 3)
 (.oR s.2.2.2.2.2.2.2.2.2.2 (3:Int)
 (.od (((0 + ((tN s.2.2.2.2.2.2.2.2.2.2) * 1)) + 1) ≤ 3)
 (.oR s.2.2.2.2.2.2.2.2.2.2 (3:Int)
 (.od (((0 + ((tN s.2.2.2.2.2.2.2.2.2.2) * 1)) + 1) ≤ 3)
 (.ret (.inl ((cond (Nat.beq (0 + ((tN s.2.2.2.2.2.2.2.2.2.2) * 1)) 0) (minI (List.getD [s.1,s.2.1,s.2.2.1] (0 + ((tN s.2.2.2.2.2.2.2.2.2.2) * 1)) z0) (List.getD [s.2.2.2.2.2.2.1,s.2.2.2.2.2.2.2.1,s.2.2.2.2.2.2.2.2.1] (0 + ((tN s.2.2.2.2.2.2.2.2.2.2) * 1)) z0)) s.1),((cond (Nat.beq (0 + ((tN s.2.2.2.2.2.2.2.2.2.2) * 1)) 1) (minI (List.getD [s.1,s.2.1,s.2.2.1] (0 + ((tN s.2.2.2.2.2.2.2.2.2.2) * 1)) z0) (List.getD [s.2.2.2.2.2.2.1,s.2.2.2.2.2.2.2.1,s.2.2.2.2.2.2.2.2.1] (0 + ((tN s.2.2.2.2.2.2.2.2.2.2) * 1)) z0)) s.2.1),((cond (Nat.beq (0 + ((tN s.2.2.2.2.2.2.2.2.2.2) * 1)) 2) (minI (List.getD [s.1,s.2.1,s.2.2.1] (0 + ((tN s.2.2.2.2.2.2.2.2.2.2) * 1)) z0) (List.getD [s.2.2.2.2.2.2.1,s.2.2.2.2.2.2.2.1,s.2.2.2.2.2.2.2.2.1] (0 + ((tN s.2.2.2.2.2.2.2.2.2.2) * 1)) z0)) s.2.2.1),((cond (Nat.beq (0 + ((tN s.2.2.2.2.2.2.2.2.2.2) * 1)) 0) (maxI (List.getD [s.2.2.2.1,s.2.2.2.2.1,s.2.2.2.2.2.1] (0 + ((tN s.2.2.2.2.2.2.2.2.2.2) * 1)) z0) (List.getD [s.2.2.2.2.2.2.1,s.2.2.2.2.2.2.2.1,s.2.2.2.2.2.2.2.2.1] (0 + ((tN s.2.2.2.2.2.2.2.2.2.2) * 1)) z0)) s.2.2.2.1),((cond (Nat.beq (0 + ((tN s.2.2.2.2.2.2.2.2.2.2) * 1)) 1) (maxI (List.getD [s.2.2.2.1,s.2.2.2.2.1,s.2.2.2.2.2.1] (0 + ((tN s.2.2.2.2.2.2.2.2.2.2) * 1)) z0) (List.getD [s.2.2.2.2.2.2.1,s.2.2.2.2.2.2.2.1,s.2.2.2.2.2.2.2.2.1] (0 + ((tN s.2.2.2.2.2.2.2.2.2.2) * 1)) z0)) s.2.2.2.2.1),((cond (Nat.beq (0 + ((tN s.2.2.2.2.2.2.2.2.2.2) * 1)) 2) (maxI (List.getD [s.2.2.2.1,s.2.2.2.2.1,s.2.2.2.2.2.1] (0 + ((tN s.2.2.2.2.2.2.2.2.2.2) * 1)) z0) (List.getD [s.2.2.2.2.2.2.1,s.2.2.2.2.2.2.2.1,s.2.2.2.2.2.2.2.2.1] (0 + ((tN s.2.2.2.2.2.2.2.2.2.2) * 1)) z0)) s.2.2.2.2.2.1),(s.2.2.2.2.2.2.1,(s.2.2.2.2.2.2.2.1,(s.2.2.2.2.2.2.2.2.1,(s.2.2.2.2.2.2.2.2.2.1,(w1 s.2.2.2.2.2.2.2.2.2.2)))))))))))))))))))))))))
 (.ret (.inr ((s.1,(s.2.1,(s.2.2.1,(s.2.2.2.1,(s.2.2.2.2.1,(s.2.2.2.2.2.1,s.2.2.2.2.2.2.2.2.2.1))))))))))
def slabOf_l1 (x : (List I3)) : LoopD := ⟨[],⟨pvs 64 0 [(2,.v (.one (.ptr 0 0))),(4,.v (.one (.ptr 1 0))),(5,.v (.one (.ptr 2 0))),(28,.v (.one (.full 3))),(29,.v (.one (.i .i64))),(30,.v (.one (.i .i64)))],[.cells [.i .i64,.i .i64,.i .i64,.i .i64,.i .i64,.i .i64] 32,.cells [.i .i64,.i .i64,.i .i64] 83,.cells [.i .i64,.i .i64,.i .i64] 83,.row yy3 0],0,none,[],[0,2,3,4,5,6,7,14],[8,9,10,11,12,13,1],[.i,.i,.i,.i,.i,.i,.i],[.i (x.length:Int),.i (0:Int),.i (0:Int),.i (0:Int),.i (0:Int),.i (0:Int),.i (0:Int),.l yy3 x]⟩,[⟨(.exit 1),.normal,⟨pvs 64 0 [(2,.v (.one (.ptr 0 0))),(4,.v (.one (.ptr 1 0))),(5,.v (.one (.ptr 2 0)))],[.cells [.i .i64,.i .i64,.i .i64,.i .i64,.i .i64,.i .i64] 32,.cells [.i .i64,.i .i64,.i .i64] 83,.cells [.i .i64,.i .i64,.i .i64] 83],0,none,[],[0,1,2,3,4,5],[6,7,8,9,10,11],[.i,.i,.i,.i,.i,.i],[.i (0:Int),.i (0:Int),.i (0:Int),.i (0:Int),.i (0:Int),.i (0:Int)]⟩⟩]⟩
def slabOf_l1_step (x : (List I3)) (s : (Int × (Int × (Int × (Int × I3))))) : (Int × (Int × (Int × (Int × I3)))) ⊕ (Int × (Int × (Int × I3))) :=
 (if (s.2.2.2.2.2.2 < (x.length:Int)) then
 (letV (parts (List.getD x (Int.toNat s.2.2.2.2.2.2) ((0:Int),((0:Int),(0:Int))))) fun y =>
 (letV (run (slabOf_l3_step x) (s.1,(s.2.1,(s.2.2.1,(s.2.2.2.1,(s.2.2.2.2.1,(s.2.2.2.2.2.1,(y.1,(y.2.1,(y.2.2,(s.2.2.2.2.2.2,(0:Int)))))))))))) fun r =>
 (Sum.inl (r.1,(r.2.1,(r.2.2.1,(r.2.2.2.1,(r.2.2.2.2.1,(r.2.2.2.2.2.1,(w64 (r.2.2.2.2.2.2 + (1:Int)))))))))))) else
 (Sum.inr ((s.1,(s.2.1,(s.2.2.1,(s.2.2.2.1,(s.2.2.2.2.1,s.2.2.2.2.2.1))))))))
def slabOf_l1_pre (x : (List I3)) (s : (Int × (Int × (Int × (Int × I3))))) : Prop :=
 ((s.2.2.2.2.2.2 < (x.length:Int)) →
 ((((0:Int) ≤ s.2.2.2.2.2.2) ∧ (s.2.2.2.2.2.2 < (x.length:Int))) ∧
 (((Int.toNat s.2.2.2.2.2.2) < (List.length x)) ∧
 (((Int.toNat s.2.2.2.2.2.2) < (List.length x)) ∧
 (letP (parts (List.getD x (Int.toNat s.2.2.2.2.2.2) ((0:Int),((0:Int),(0:Int))))) fun y =>
 (Term (slabOf_l3_step x) (slabOf_l3_pre x) (s.1,(s.2.1,(s.2.2.1,(s.2.2.2.1,(s.2.2.2.2.1,(s.2.2.2.2.2.1,(y.1,(y.2.1,(y.2.2,(s.2.2.2.2.2.2,(0:Int)))))))))))))))))
def slabOf_l1_t (x : (List I3)) (s : (Int × (Int × (Int × (Int × I3))))) : Tr ((Int × (Int × (Int × (Int × I3)))) ⊕ (Int × (Int × (Int × I3)))) true :=
 (.i10 (s.2.2.2.2.2.2 < (nL x))
 (.oI2 s.2.2.2.2.2.2 x
 (.fn0 parts_S (gT x s.2.2.2.2.2.2 zz3) trivial fun y =>
 (LoopD.lp (slabOf_l3 x) (slabOf_l3_t x) (s.1,(s.2.1,(s.2.2.1,(s.2.2.2.1,(s.2.2.2.2.1,(s.2.2.2.2.2.1,(y.1,(y.2.1,(y.2.2,(s.2.2.2.2.2.2,z0)))))))))) fun r =>
 (.ret (.inl (r.1,(r.2.1,(r.2.2.1,(r.2.2.2.1,(r.2.2.2.2.1,(r.2.2.2.2.2.1,(w1 r.2.2.2.2.2.2))))))))))))
 (.ret (.inr ((s.1,(s.2.1,(s.2.2.1,(s.2.2.2.1,(s.2.2.2.2.1,s.2.2.2.2.2.1)))))))))
def slabOf (x : (List I3)) : ((I3 × I3) × Int) :=
 (if (((x.length:Int) == (0:Int)) = true) then
 ((((0:Int),((0:Int),(0:Int))),((0:Int),((0:Int),(0:Int)))),(1:Int)) else
 (letV (small3 x) fun y =>
 (if ((!y) = true) then
 ((((0:Int),((0:Int),(0:Int))),((0:Int),((0:Int),(0:Int)))),(5:Int)) else
 (letV (parts (List.getD x 0 ((0:Int),((0:Int),(0:Int))))) fun y_1 =>
 (letV (parts (List.getD x 0 ((0:Int),((0:Int),(0:Int))))) fun y_2 =>
 (letV (run (slabOf_l1_step x) (y_1.1,(y_1.2.1,(y_1.2.2,(y_2.1,(y_2.2.1,(y_2.2.2,(0:Int)))))))) fun r =>
 (letV (point (r.1,(r.2.1,r.2.2.1))) fun y_3 =>
 (letV (point r.2.2.2) fun y_4 =>
 ((y_3,y_4),(0:Int))))))))))
def slabOf_pre (x : (List I3)) : Prop :=
 (¬ (((x.length:Int) == (0:Int)) = true) →
 ((small3_pre x) ∧
 letP (small3 x) fun y =>
 (¬ ((!y) = true) →
 (((0:Int) < (x.length:Int)) ∧
 ((0 < (List.length x)) ∧
 ((0 < (List.length x)) ∧
 (letP (parts (List.getD x 0 ((0:Int),((0:Int),(0:Int))))) fun y_1 =>
 (((0:Int) < (x.length:Int)) ∧
 ((0 < (List.length x)) ∧
 ((0 < (List.length x)) ∧
 (letP (parts (List.getD x 0 ((0:Int),((0:Int),(0:Int))))) fun y_2 =>
 (Term (slabOf_l1_step x) (slabOf_l1_pre x) (y_1.1,(y_1.2.1,(y_1.2.2,(y_2.1,(y_2.2.1,(y_2.2.2,(0:Int)))))))))))))))))))
def slabOf_t (x : (List I3)) : Tr ((I3 × I3) × Int) true :=
 (.b01 ((nL x) == z0)
 (.ret ((zz3,zz3),z1))
 (.fn small3_S x fun y =>
 (.b01 (!y)
 (.ret ((zz3,zz3),(5:Int)))
 (.og (true && (decide (z0 < (nL x)))) (z0 < (nL x)) (fun h => (and_t rfl (decide_eq_true h)))
 (.od (0 < (List.length x))
 (.od (0 < (List.length x))
 (.fn0 parts_S (List.getD x 0 zz3) trivial fun y_1 =>
 (.og (true && (decide (z0 < (nL x)))) (z0 < (nL x)) (fun h => (and_t rfl (decide_eq_true h)))
 (.od (0 < (List.length x))
 (.od (0 < (List.length x))
 (.fn0 parts_S (List.getD x 0 zz3) trivial fun y_2 =>
 (LoopD.lp (slabOf_l1 x) (slabOf_l1_t x) (y_1.1,(y_1.2.1,(y_1.2.2,(y_2.1,(y_2.2.1,(y_2.2.2,z0)))))) fun r =>
 (.fn0 point_S (r.1,(r.2.1,r.2.2.1)) trivial fun y_3 =>
 (.fn0 point_S r.2.2.2 trivial fun y_4 =>
 (.ret ((y_3,y_4),z0))))))))))))))))
abbrev slabOf_S : FnS := ⟨(.one (Ty.sl yy3)),(.pair (.agg (Ty.prod yy3 yy3)) (.one yi)),slabOf_pre,slabOf⟩
theorem slabOf_ok : SpecOk Try.prog 32 (fnSpec slabOf_S) := SpecOk.tr slabOf_S slabOf_t (fn := Try.f32) tt_ok sp_slabIs_ok mixed (by kernel_rfl) (ItsOk.nil _ _) (fun x => (LpsOk.tr tt_ok (SpecsOk.ctxI sp_slabIs_ok (ItsOk.nil _ _)) mixed 1 (slabOf_l1 x) (slabOf_l1_t x) (LpsOk.tr tt_ok (SpecsOk.ctxI sp_slabIs_ok (ItsOk.nil _ _)) mixed 3 (slabOf_l3 x) (slabOf_l3_t x) LpsOk.nil (by kernel_rfl) fun g s Q => (by kernel_rfl)) (by kernel_rfl) fun g s Q => (by kernel_rfl))) (fun x => (by kernel_rfl)) fun x Q => (by kernel_rfl)
def sp_slabOf : List (Nat × Ev.Spec) := (32,fnSpec slabOf_S) :: sp_slabIs
theorem sp_slabOf_ok : SpecsOk Try.prog sp_slabOf := SpecsOk.add (fn := Try.f32) (by kernel_rfl) slabOf_ok sp_slabIs_ok
def longest_l0 (x : (I3 × I3)) : LoopD := ⟨[],⟨pvs 38 0 [(4,.v (.one (.ptr 0 0))),(5,.v (.one (.ptr 1 0))),(6,.v (.one (.i .i64))),(17,.v (.one (.i .i64)))],[.cells [.i .i64,.i .i64,.i .i64] 83,.cells [.i .i64,.i .i64,.i .i64] 83],0,none,[],[],[2,3,4,5,6,7,0,1],[.i,.i,.i,.i,.i,.i,.i,.i],[]⟩,[⟨(.exit 0),.normal,⟨pvs 38 0 [(6,.v (.one (.i .i64)))],[],0,none,[],[],[0],[.i],[]⟩⟩]⟩
def longest_l0_step (x : (I3 × I3)) (s : (Int × (Int × (Int × (Int × (Int × I3)))))) : (Int × (Int × (Int × (Int × (Int × I3))))) ⊕ Int :=
 (if (s.2.2.2.2.2.2.2 < (3:Int)) then
 (if ((w64 ((List.getD [s.2.2.2.1,s.2.2.2.2.1,s.2.2.2.2.2.1] (0 + ((Int.toNat s.2.2.2.2.2.2.2) * 1)) (0:Int)) - (List.getD [s.1,s.2.1,s.2.2.1] (0 + ((Int.toNat s.2.2.2.2.2.2.2) * 1)) (0:Int)))) > (w64 ((List.getD [s.2.2.2.1,s.2.2.2.2.1,s.2.2.2.2.2.1] (0 + ((Int.toNat s.2.2.2.2.2.2.1) * 1)) (0:Int)) - (List.getD [s.1,s.2.1,s.2.2.1] (0 + ((Int.toNat s.2.2.2.2.2.2.1) * 1)) (0:Int))))) then
 (Sum.inl (s.1,(s.2.1,(s.2.2.1,(s.2.2.2.1,(s.2.2.2.2.1,(s.2.2.2.2.2.1,(s.2.2.2.2.2.2.2,(w64 (s.2.2.2.2.2.2.2 + (1:Int))))))))))) else
 (Sum.inl (s.1,(s.2.1,(s.2.2.1,(s.2.2.2.1,(s.2.2.2.2.1,(s.2.2.2.2.2.1,(s.2.2.2.2.2.2.1,(w64 (s.2.2.2.2.2.2.2 + (1:Int)))))))))))) else
 (Sum.inr (s.2.2.2.2.2.2.1)))
def longest_l0_pre (x : (I3 × I3)) (s : (Int × (Int × (Int × (Int × (Int × I3)))))) : Prop :=
 ((s.2.2.2.2.2.2.2 < (3:Int)) →
 ((((0:Int) ≤ s.2.2.2.2.2.2.2) ∧ (s.2.2.2.2.2.2.2 < (3:Int))) ∧
 ((((0 + ((Int.toNat s.2.2.2.2.2.2.2) * 1)) + 1) ≤ 3) ∧
 ((((0:Int) ≤ s.2.2.2.2.2.2.2) ∧ (s.2.2.2.2.2.2.2 < (3:Int))) ∧
 ((((0 + ((Int.toNat s.2.2.2.2.2.2.2) * 1)) + 1) ≤ 3) ∧
 ((((0:Int) ≤ s.2.2.2.2.2.2.1) ∧ (s.2.2.2.2.2.2.1 < (3:Int))) ∧
 ((((0 + ((Int.toNat s.2.2.2.2.2.2.1) * 1)) + 1) ≤ 3) ∧
 ((((0:Int) ≤ s.2.2.2.2.2.2.1) ∧ (s.2.2.2.2.2.2.1 < (3:Int))) ∧
 (((0 + ((Int.toNat s.2.2.2.2.2.2.1) * 1)) + 1) ≤ 3)))))))))
def longest_l0_t (x : (I3 × I3)) (s : (Int × (Int × (Int × (Int × (Int × I3)))))) : Tr ((Int × (Int × (Int × (Int × (Int × I3))))) ⊕ Int) true :=
 (.i10 (s.2.2.2.2.2.2.2 < (3:Int))
 (.oR s.2.2.2.2.2.2.2 (3:Int)
 (.od (((0 + ((tN s.2.2.2.2.2.2.2) * 1)) + 1) ≤ 3)
 (.oR s.2.2.2.2.2.2.2 (3:Int)
 (.od (((0 + ((tN s.2.2.2.2.2.2.2) * 1)) + 1) ≤ 3)
 (.oR s.2.2.2.2.2.2.1 (3:Int)
 (.od (((0 + ((tN s.2.2.2.2.2.2.1) * 1)) + 1) ≤ 3)
 (.oR s.2.2.2.2.2.2.1 (3:Int)
 (.od (((0 + ((tN s.2.2.2.2.2.2.1) * 1)) + 1) ≤ 3)
 (.i00 ((w64 ((List.getD [s.2.2.2.1,s.2.2.2.2.1,s.2.2.2.2.2.1] (0 + ((tN s.2.2.2.2.2.2.2) * 1)) z0) - (List.getD [s.1,s.2.1,s.2.2.1] (0 + ((tN s.2.2.2.2.2.2.2) * 1)) z0))) > (w64 ((List.getD [s.2.2.2.1,s.2.2.2.2.1,s.2.2.2.2.2.1] (0 + ((tN s.2.2.2.2.2.2.1) * 1)) z0) - (List.getD [s.1,s.2.1,s.2.2.1] (0 + ((tN s.2.2.2.2.2.2.1) * 1)) z0))))
 (.ret (.inl (s.1,(s.2.1,(s.2.2.1,(s.2.2.2.1,(s.2.2.2.2.1,(s.2.2.2.2.2.1,(s.2.2.2.2.2.2.2,(w1 s.2.2.2.2.2.2.2))))))))))
 (.ret (.inl (s.1,(s.2.1,(s.2.2.1,(s.2.2.2.1,(s.2.2.2.2.1,(s.2.2.2.2.2.1,(s.2.2.2.2.2.2.1,(w1 s.2.2.2.2.2.2.2)))))))))))))))))))
 (.ret (.inr (s.2.2.2.2.2.2.1))))
def longest (x : (I3 × I3)) : I2 :=
 (letV (slabIs x) fun y =>
 (if ((!y) = true) then
 ((0:Int),(1:Int)) else
 (letV (parts x.1) fun y_1 =>
 (letV (parts x.2) fun y_2 =>
 (letV (run (longest_l0_step x) (y_1.1,(y_1.2.1,(y_1.2.2,(y_2.1,(y_2.2.1,(y_2.2.2,((0:Int),(0:Int))))))))) fun r =>
 (r,(0:Int)))))))
def longest_pre (x : (I3 × I3)) : Prop :=
 ((slabIs_pre x) ∧
 letP (slabIs x) fun y =>
 (¬ ((!y) = true) →
 (letP (parts x.1) fun y_1 =>
 (letP (parts x.2) fun y_2 =>
 (Term (longest_l0_step x) (longest_l0_pre x) (y_1.1,(y_1.2.1,(y_1.2.2,(y_2.1,(y_2.2.1,(y_2.2.2,((0:Int),(0:Int)))))))))))))
def longest_t (x : (I3 × I3)) : Tr I2 true :=
 (.fn slabIs_S x fun y =>
 (.b01 (!y)
 (.ret (z0,z1))
 (.fn0 parts_S x.1 trivial fun y_1 =>
 (.fn0 parts_S x.2 trivial fun y_2 =>
 (LoopD.lp (longest_l0 x) (longest_l0_t x) (y_1.1,(y_1.2.1,(y_1.2.2,(y_2.1,(y_2.2.1,(y_2.2.2,zz2)))))) fun r =>
 (.ret (r,z0)))))))
abbrev longest_S : FnS := ⟨(.agg (Ty.prod yy3 yy3)),(.pair (.one yi) (.one yi)),longest_pre,longest⟩
theorem longest_ok : SpecOk Try.prog 36 (fnSpec longest_S) := SpecOk.tr longest_S longest_t (fn := Try.f36) tt_ok sp_slabOf_ok mixed (by kernel_rfl) (ItsOk.nil _ _) (fun x => (LpsOk.tr tt_ok (SpecsOk.ctxI sp_slabOf_ok (ItsOk.nil _ _)) mixed 0 (longest_l0 x) (longest_l0_t x) LpsOk.nil (by kernel_rfl) fun g s Q => (by kernel_rfl))) (fun x => (by kernel_rfl)) fun x Q => (by kernel_rfl)
def sp_longest : List (Nat × Ev.Spec) := (36,fnSpec longest_S) :: sp_slabOf
theorem sp_longest_ok : SpecsOk Try.prog sp_longest := SpecsOk.add (fn := Try.f36) (by kernel_rfl) longest_ok sp_slabOf_ok
def boxF_l0 (x : ((List I9) × (List Int))) : LoopD := ⟨[],⟨pvs 31 0 [(0,.v (.one (.full 0))),(4,.v (.one (.ptr 1 0))),(5,.v (.one (.full 2))),(11,.v (.one (.full 3))),(12,.v (.one (.i .i64))),(13,.v (.one (.i .i64)))],[.row yy9 0,.cells [.i .i64,.i .i64,.i .i64,.i .i64,.i .i64,.i .i64] 32,.row yy3 2,.row yi 0],0,none,[],[0,2,3,4,5,6,7,8,10],[9,1],[(.l yy3),.i],[.i (x.2.length:Int),.l yy9 x.1,.i (0:Int),.i (0:Int),.i (0:Int),.i (0:Int),.i (0:Int),.i (0:Int),.l yi x.2]⟩,[⟨(.exit 0),.normal,⟨pvs 31 0 [(4,.v (.one (.ptr 0 0))),(5,.v (.one (.full 1)))],[.cells [.i .i64,.i .i64,.i .i64,.i .i64,.i .i64,.i .i64] 32,.row yy3 2],0,none,[],[0,1,2,3,4,5],[6],[(.l yy3)],[.i (0:Int),.i (0:Int),.i (0:Int),.i (0:Int),.i (0:Int),.i (0:Int)]⟩⟩]⟩
def boxF_l0_step (x : ((List I9) × (List Int))) (s : ((List I3) × Int)) : ((List I3) × Int) ⊕ (List I3) :=
 (if (s.2 < (x.2.length:Int)) then
 (Sum.inl ((s.1 ++ [(List.getD x.1 (Int.toNat (List.getD x.2 (Int.toNat s.2) (0:Int))) (((0:Int),((0:Int),(0:Int))),(((0:Int),((0:Int),(0:Int))),((0:Int),((0:Int),(0:Int)))))).1,(List.getD x.1 (Int.toNat (List.getD x.2 (Int.toNat s.2) (0:Int))) (((0:Int),((0:Int),(0:Int))),(((0:Int),((0:Int),(0:Int))),((0:Int),((0:Int),(0:Int)))))).2.1,(List.getD x.1 (Int.toNat (List.getD x.2 (Int.toNat s.2) (0:Int))) (((0:Int),((0:Int),(0:Int))),(((0:Int),((0:Int),(0:Int))),((0:Int),((0:Int),(0:Int)))))).2.2]),(w64 (s.2 + (1:Int))))) else
 (Sum.inr (s.1)))
def boxF_l0_pre (x : ((List I9) × (List Int))) (s : ((List I3) × Int)) : Prop :=
 ((s.2 < (x.2.length:Int)) →
 ((((0:Int) ≤ s.2) ∧ (s.2 < (x.2.length:Int))) ∧
 (((Int.toNat s.2) < (List.length x.2)) ∧
 (((Int.toNat s.2) < (List.length x.2)) ∧
 ((((0:Int) ≤ (List.getD x.2 (Int.toNat s.2) (0:Int))) ∧ ((List.getD x.2 (Int.toNat s.2) (0:Int)) < (x.1.length:Int))) ∧
 (((Int.toNat (List.getD x.2 (Int.toNat s.2) (0:Int))) < (List.length x.1)) ∧
 (((Int.toNat (List.getD x.2 (Int.toNat s.2) (0:Int))) < (List.length x.1)) ∧
 (((List.length s.1) + 3) < 1099511627776))))))))
def boxF_l0_t (x : ((List I9) × (List Int))) (s : ((List I3) × Int)) : Tr (((List I3) × Int) ⊕ (List I3)) true :=
 (.i10 (s.2 < (nL x.2))
 (.oI2 s.2 x.2
 (.oI2 (gI x.2 s.2) x.1
 (.od (((List.length s.1) + 3) < 1099511627776)
 (.ret (.inl ((s.1 ++ [(gT x.1 (gI x.2 s.2) zz9).1,(gT x.1 (gI x.2 s.2) zz9).2.1,(gT x.1 (gI x.2 s.2) zz9).2.2]),(w1 s.2)))))))
 (.ret (.inr (s.1))))
def boxF (x : ((List I9) × (List Int))) : (I3 × I3) :=
 (letV (run (boxF_l0_step x) ([],(0:Int))) fun r =>
 (letV (slabOf r) fun y =>
 y.1))
def boxF_pre (x : ((List I9) × (List Int))) : Prop :=
 (Term (boxF_l0_step x) (boxF_l0_pre x) ([],(0:Int)) ∧
 letP (run (boxF_l0_step x) ([],(0:Int))) fun r =>
 (slabOf_pre r))
def boxF_t (x : ((List I9) × (List Int))) : Tr (I3 × I3) true :=
 (LoopD.lp (boxF_l0 x) (boxF_l0_t x) ([],z0) fun r =>
 (.fn slabOf_S r fun y =>
 (.ret y.1)))
abbrev boxF_S : FnS := ⟨(.pair (.one (Ty.sl yy9)) (.one (Ty.sl yi))),(.agg (Ty.prod yy3 yy3)),boxF_pre,boxF⟩
theorem boxF_ok : SpecOk Try.prog 17 (fnSpec boxF_S) := SpecOk.tr boxF_S boxF_t (fn := Try.f17) tt_ok sp_longest_ok mixed (by kernel_rfl) (ItsOk.nil _ _) (fun x => (LpsOk.tr tt_ok (SpecsOk.ctxI sp_longest_ok (ItsOk.nil _ _)) mixed 0 (boxF_l0 x) (boxF_l0_t x) LpsOk.nil (by kernel_rfl) fun g s Q => (by kernel_rfl))) (fun x => (by kernel_rfl)) fun x Q => (by kernel_rfl)
def sp_boxF : List (Nat × Ev.Spec) := (17,fnSpec boxF_S) :: sp_longest
theorem sp_boxF_ok : SpecsOk Try.prog sp_boxF := SpecsOk.add (fn := Try.f17) (by kernel_rfl) boxF_ok sp_longest_ok
def splitF (x : ((List I9) × (List Int))) : ((List Int) × (List Int)) :=
 (letV (boxF x) fun y =>
 (letV (longest y) fun y_1 =>
 (letV (cloneI x.2) fun y_2 =>
 (letV (sortM (y_2,(x.1,y_1.1))) fun y_3 =>
 ((List.take (Int.toNat (w64 (Int.tdiv (y_3.2.1.length:Int) (2:Int)))) y_3.2.1),(List.drop (Int.toNat (w64 (Int.tdiv (y_3.2.1.length:Int) (2:Int)))) y_3.2.1))))))
def splitF_pre (x : ((List I9) × (List Int))) : Prop :=
 ((boxF_pre x) ∧
 letP (boxF x) fun y =>
 ((longest_pre y) ∧
 letP (longest y) fun y_1 =>
 ((cloneI_pre x.2) ∧
 letP (cloneI x.2) fun y_2 =>
 ((sortM_pre (y_2,(x.1,y_1.1))) ∧
 letP (sortM (y_2,(x.1,y_1.1))) fun y_3 =>
 ((((0:Int) ≤ (w64 (Int.tdiv (y_3.2.1.length:Int) (2:Int)))) ∧ ((w64 (Int.tdiv (y_3.2.1.length:Int) (2:Int))) ≤ (y_3.2.1.length:Int))) ∧
 ((((0:Int) ≤ (w64 (Int.tdiv (y_3.2.1.length:Int) (2:Int)))) ∧ ((w64 (Int.tdiv (y_3.2.1.length:Int) (2:Int))) ≤ (((Int.toNat (w64 (Int.tdiv (y_3.2.1.length:Int) (2:Int)))):Nat):Int))) ∧
 (((0:Int) ≤ (w64 (Int.tdiv (y_3.2.1.length:Int) (2:Int)))) ∧ ((w64 (Int.tdiv (y_3.2.1.length:Int) (2:Int))) ≤ (y_3.2.1.length:Int)))))))))
theorem splitF_vc (x : ((List I9) × (List Int))) (S : Nat → Prop) (Q : ((List Int) × (List Int)) → Prop) : fnE ⟨tt,sp_boxF,noX,[],[],[]⟩ Try.f19 (argsE (.pair (.one (Ty.sl yy9)) (.one (Ty.sl yi))) x) (heapE (.pair (.one (Ty.sl yy9)) (.one (Ty.sl yi))) x ++ [.hide S]) (retRo (.pair (.one (Ty.sl yi)) (.one (Ty.sl yi))) S Q) =
 ((boxF_pre x) ∧ ∀ y : (I3 × I3),y = (boxF x) →
 ((longest_pre y) ∧ ∀ y_1 : I2,y_1 = (longest y) →
 ((cloneI_pre x.2) ∧ ∀ y_2 : (List Int),y_2 = (cloneI x.2) →
 ((sortM_pre (y_2,(x.1,y_1.1))) ∧ ∀ y_3 : (Bool × ((List Int) × Bool)),y_3 = (sortM (y_2,(x.1,y_1.1))) →
 (ob ((decide ((0:Int) ≤ (w64 (Int.tdiv (y_3.2.1.length:Int) (2:Int))))) && (decide ((w64 (Int.tdiv (y_3.2.1.length:Int) (2:Int))) ≤ (y_3.2.1.length:Int))))
 (ob ((decide ((0:Int) ≤ (w64 (Int.tdiv (y_3.2.1.length:Int) (2:Int))))) && (decide ((w64 (Int.tdiv (y_3.2.1.length:Int) (2:Int))) ≤ (((Int.toNat (w64 (Int.tdiv (y_3.2.1.length:Int) (2:Int)))):Nat):Int))))
 (ob ((decide ((0:Int) ≤ (w64 (Int.tdiv (y_3.2.1.length:Int) (2:Int))))) && (decide ((w64 (Int.tdiv (y_3.2.1.length:Int) (2:Int))) ≤ (y_3.2.1.length:Int))))
 ((S = S) ∧
 (Q ((List.take (Int.toNat (w64 (Int.tdiv (y_3.2.1.length:Int) (2:Int)))) y_3.2.1),(List.drop (Int.toNat (w64 (Int.tdiv (y_3.2.1.length:Int) (2:Int)))) y_3.2.1))))))))))) := by kernel_rfl
theorem splitF_fn (x : ((List I9) × (List Int))) (S : Nat → Prop) (Q : ((List Int) × (List Int)) → Prop) (hp : splitF_pre x) (hq : Q (splitF x)) : Vc (fnE ⟨tt,sp_boxF,noX,[],[],[]⟩ Try.f19 (argsE (.pair (.one (Ty.sl yy9)) (.one (Ty.sl yi))) x) (heapE (.pair (.one (Ty.sl yy9)) (.one (Ty.sl yi))) x ++ [.hide S]) (retRo (.pair (.one (Ty.sl yi)) (.one (Ty.sl yi))) S Q)) := .eq (splitF_vc x S Q) (have hp := Eq.mp (splitF_pre.eq_1 x) hp; have hq := Eq.mp (congrArg Q (splitF.eq_1 x)) hq;
 (And.intro hp.1 (let_k (Q := Q) hp.2 hq fun y hp hq => (And.intro hp.1 (let_k (Q := Q) hp.2 hq fun y_1 hp hq => (And.intro hp.1 (let_k (Q := Q) hp.2 hq fun y_2 hp hq => (And.intro hp.1 (let_k (Q := Q) hp.2 hq fun y_3 hp hq => (ob_k (and_t (decide_eq_true hp.1.1) (decide_eq_true hp.1.2)) (have hp := hp.2; (ob_k (and_t (decide_eq_true hp.1.1) (decide_eq_true hp.1.2)) (have hp := hp.2; (ob_k (and_t (decide_eq_true hp.1) (decide_eq_true hp.2)) (And.intro rfl hq)))))))))))))))
abbrev splitF_S : FnS := ⟨(.pair (.one (Ty.sl yy9)) (.one (Ty.sl yi))),(.pair (.one (Ty.sl yi)) (.one (Ty.sl yi))),splitF_pre,splitF⟩
theorem splitF_ok : SpecOk Try.prog 19 (fnSpecR splitF_S) := SpecOk.fnR (fn := Try.f19) tt_ok sp_boxF_ok mixed (by kernel_rfl) (by kernel_rfl) (.pair (.one (Ty.sl yy9)) (.one (Ty.sl yi))) (.pair (.one (Ty.sl yi)) (.one (Ty.sl yi))) splitF_pre splitF fun x hp S => ⟨_,_,(ItsOk.nil _ _),LpsOk.nil,splitF_fn x S (fun y => y = splitF x) hp rfl⟩
def sp_splitF : List (Nat × Ev.Spec) := (19,fnSpecR splitF_S) :: sp_boxF
theorem sp_splitF_ok : SpecsOk Try.prog sp_splitF := SpecsOk.add (fn := Try.f19) (by kernel_rfl) splitF_ok sp_boxF_ok
def oddT (x : (Int × (List I9))) : Bool :=
 (if (x.1 < (0:Int)) then
 true else
 (decide (x.1 ≥ (x.2.length:Int))))
def oddT_pre (_ : (Int × (List I9))) : Prop := True
def oddT_t (x : (Int × (List I9))) : Tr Bool false :=
 (.i00 (x.1 < z0)
 (.ret true)
 (.ret (decide (x.1 ≥ (nL x.2)))))
abbrev oddT_S : FnS := ⟨(.pair (.one yi) (.ptr (.sl (.prod (.prod (.int .i64) (.prod (.int .i64) (.int .i64))) (.prod (.prod (.int .i64) (.prod (.int .i64) (.int .i64))) (.prod (.int .i64) (.prod (.int .i64) (.int .i64)))))))),(.one Ty.bool),oddT_pre,oddT⟩
theorem oddT_ok : SpecOk Try.prog 27 (fnSpec oddT_S) := SpecOk.tr oddT_S oddT_t (fn := Try.f27) tt_ok sp_splitF_ok mixed (by kernel_rfl) (ItsOk.nil _ _) (fun x => LpsOk.nil) (fun x => (by kernel_rfl)) fun x Q => (by kernel_rfl)
def sp_oddT : List (Nat × Ev.Spec) := (27,fnSpec oddT_S) :: sp_splitF
theorem sp_oddT_ok : SpecsOk Try.prog sp_oddT := SpecsOk.add (fn := Try.f27) (by kernel_rfl) oddT_ok sp_splitF_ok
def indexI_l0 (x : ((List Int) × (List I9))) : LoopD := ⟨[],⟨pvs 19 0 [(0,.v (.one (.full 0))),(1,.v (.one (.clo 27 0 [.elem 1]))),(7,.v (.one (.i .i64))),(8,.v (.one (.i .i64)))],[.row yi 0,.row (Ty.sl yy9) 0],0,none,[],[0,1,3,4],[2],[.i],[.n 0,.i (x.1.length:Int),.l yi x.1,.l (Ty.sl yy9) [x.2]]⟩,[⟨.ret,.ret,⟨pvs 19 0 [(4,.v (.one (.i .i64)))],[],0,none,[],[],[0],[.i],[]⟩⟩,⟨(.exit 0),.normal,⟨pvs 19 0 [],[],0,none,[],[],[],[],[]⟩⟩]⟩
def indexI_l0_step (x : ((List Int) × (List I9))) (s:Int) : Int ⊕ (Int ⊕ Unit) :=
 (if (s < (x.1.length:Int)) then
 (letV (oddT ((List.getD x.1 (Int.toNat s) (0:Int)),x.2)) fun y =>
 (if (y = true) then
 (Sum.inr (Sum.inl s)) else
 (Sum.inl (w64 (s + (1:Int)))))) else
 (Sum.inr (Sum.inr (()))))
def indexI_l0_pre (x : ((List Int) × (List I9))) (s:Int) : Prop :=
 ((s < (x.1.length:Int)) →
 ((((0:Int) ≤ s) ∧ (s < (x.1.length:Int))) ∧
 (((Int.toNat s) < (List.length x.1)) ∧
 ((Int.toNat s) < (List.length x.1)))))
def indexI_l0_t (x : ((List Int) × (List I9))) (s:Int) : Tr (Int ⊕ (Int ⊕ Unit)) true :=
 (.i10 (s < (nL x.1))
 (.oI2 s x.1
 (.fn0 oddT_S ((gI x.1 s),x.2) trivial fun y =>
 (.b00 y
 (.ret (.inr (Sum.inl s)))
 (.ret (.inl (w1 s))))))
 (.ret (.inr (Sum.inr (())))))
def indexI (x : ((List Int) × (List I9))) : Int :=
 (letV (run (indexI_l0_step x) (0:Int)) fun r =>
 (Sum.elim (fun a =>
 a) (fun b =>
 (-1:Int)) r))
def indexI_pre (x : ((List Int) × (List I9))) : Prop :=
 (Term (indexI_l0_step x) (indexI_l0_pre x) (0:Int))
def indexI_t (x : ((List Int) × (List I9))) : Tr Int true :=
 (LoopD.lp (indexI_l0 x) (indexI_l0_t x) z0 fun r =>
 (.s00 r (fun a =>
 (.ret a)) (fun b =>
 (.ret (-1:Int)))))
abbrev indexI_S : FnS := ⟨(.pair (.one (Ty.sl yi)) (.clo 27 (.ptr (.sl (.prod (.prod (.int .i64) (.prod (.int .i64) (.int .i64))) (.prod (.prod (.int .i64) (.prod (.int .i64) (.int .i64))) (.prod (.int .i64) (.prod (.int .i64) (.int .i64))))))))),(.one yi),indexI_pre,indexI⟩
theorem indexI_ok : SpecOk Try.prog 43 (fnSpec indexI_S) := SpecOk.tr indexI_S indexI_t (fn := Try.f43) tt_ok sp_oddT_ok mixed (by kernel_rfl) (ItsOk.nil _ _) (fun x => (LpsOk.tr tt_ok (SpecsOk.ctxI sp_oddT_ok (ItsOk.nil _ _)) mixed 0 (indexI_l0 x) (indexI_l0_t x) LpsOk.nil (by kernel_rfl) fun g s Q => (by kernel_rfl))) (fun x => (by kernel_rfl)) fun x Q => (by kernel_rfl)
def sp_indexI : List (Nat × Ev.Spec) := (43,fnSpec indexI_S) :: sp_oddT
theorem sp_indexI_ok : SpecsOk Try.prog sp_indexI := SpecsOk.add (fn := Try.f43) (by kernel_rfl) indexI_ok sp_oddT_ok
def containsI (x : ((List Int) × (List I9))) : Bool :=
 (letV (indexI x) fun y =>
 (decide (y ≥ (0:Int))))
def containsI_pre (x : ((List Int) × (List I9))) : Prop :=
 (indexI_pre x)
def containsI_t (x : ((List Int) × (List I9))) : Tr Bool true :=
 (.fn indexI_S x fun y =>
 (.ret (decide (y ≥ z0))))
abbrev containsI_S : FnS := ⟨(.pair (.one (Ty.sl yi)) (.clo 27 (.ptr (.sl (.prod (.prod (.int .i64) (.prod (.int .i64) (.int .i64))) (.prod (.prod (.int .i64) (.prod (.int .i64) (.int .i64))) (.prod (.int .i64) (.prod (.int .i64) (.int .i64))))))))),(.one Ty.bool),containsI_pre,containsI⟩
theorem containsI_ok : SpecOk Try.prog 28 (fnSpec containsI_S) := SpecOk.tr containsI_S containsI_t (fn := Try.f28) tt_ok sp_indexI_ok mixed (by kernel_rfl) (ItsOk.nil _ _) (fun x => LpsOk.nil) (fun x => (by kernel_rfl)) fun x Q => (by kernel_rfl)
def sp_containsI : List (Nat × Ev.Spec) := (28,fnSpec containsI_S) :: sp_indexI
theorem sp_containsI_ok : SpecsOk Try.prog sp_containsI := SpecsOk.add (fn := Try.f28) (by kernel_rfl) containsI_ok sp_indexI_ok
def splitM (x : ((List I9) × (List Int))) : ((List Int) × ((List Int) × Int)) :=
 (letV (smallF x.1) fun y =>
 (if ((!y) = true) then
 ([],([],(5:Int))) else
 (if ((x.2.length:Int) < (2:Int)) then
 ([],([],(1:Int))) else
 (letV (containsI (x.2,x.1)) fun y_1 =>
 (if (y_1 = true) then
 ([],([],(1:Int))) else
 (letV (splitF x) fun y_2 =>
 (letV (cloneI y_2.2) fun y_3 =>
 (y_2.1,(y_3,(0:Int))))))))))
def splitM_pre (x : ((List I9) × (List Int))) : Prop :=
 ((smallF_pre x.1) ∧
 letP (smallF x.1) fun y =>
 (¬ ((!y) = true) →
 (¬ ((x.2.length:Int) < (2:Int)) →
 ((containsI_pre (x.2,x.1)) ∧
 letP (containsI (x.2,x.1)) fun y_1 =>
 (¬ (y_1 = true) →
 ((splitF_pre x) ∧
 letP (splitF x) fun y_2 =>
 (cloneI_pre y_2.2)))))))
theorem splitM_vc (x : ((List I9) × (List Int))) (S : Nat → Prop) (Q : ((List Int) × ((List Int) × Int)) → Prop) : fnE ⟨tt,sp_containsI,noX,[],[],[]⟩ Try.f11 (argsE (.pair (.one (Ty.sl yy9)) (.one (Ty.sl yi))) x) (heapE (.pair (.one (Ty.sl yy9)) (.one (Ty.sl yi))) x ++ [.hide S]) (retRo (.pair (.one (Ty.sl yi)) (.pair (.one (Ty.sl yi)) (.one yi))) S Q) =
 ((smallF_pre x.1) ∧ ∀ y : Bool,y = (smallF x.1) →
 (cB (!y)
 ((S = S) ∧
 (Q ([],([],(5:Int)))))
 (cB (decide ((x.2.length:Int) < (2:Int)))
 ((S = S) ∧
 (Q ([],([],(1:Int)))))
 ((containsI_pre (x.2,x.1)) ∧ ∀ y_1 : Bool,y_1 = (containsI (x.2,x.1)) →
 (cB y_1
 ((S = S) ∧
 (Q ([],([],(1:Int)))))
 ((splitF_pre x) ∧ ∀ y_2 : ((List Int) × (List Int)),y_2 = (splitF x) →
 ((cloneI_pre y_2.2) ∧ ∀ y_3 : (List Int),y_3 = (cloneI y_2.2) →
 ((S = S) ∧
 (Q (y_2.1,(y_3,(0:Int)))))))))))) := by kernel_rfl
theorem splitM_fn (x : ((List I9) × (List Int))) (S : Nat → Prop) (Q : ((List Int) × ((List Int) × Int)) → Prop) (hp : splitM_pre x) (hq : Q (splitM x)) : Vc (fnE ⟨tt,sp_containsI,noX,[],[],[]⟩ Try.f11 (argsE (.pair (.one (Ty.sl yy9)) (.one (Ty.sl yi))) x) (heapE (.pair (.one (Ty.sl yy9)) (.one (Ty.sl yi))) x ++ [.hide S]) (retRo (.pair (.one (Ty.sl yi)) (.pair (.one (Ty.sl yi)) (.one yi))) S Q)) := .eq (splitM_vc x S Q) (have hp := Eq.mp (splitM_pre.eq_1 x) hp; have hq := Eq.mp (congrArg Q (splitM.eq_1 x)) hq;
 (And.intro hp.1 (let_k (Q := Q) hp.2 hq fun y hp hq => (cB_b (Q := Q) hq (fun c hq => (And.intro rfl hq)) (fun c hq => have hp := (hp c); (cB_d (Q := Q) hq (fun c hq => (And.intro rfl hq)) (fun c hq => have hp := (hp c); (And.intro hp.1 (let_k (Q := Q) hp.2 hq fun y_1 hp hq => (cB_b (Q := Q) hq (fun c hq => (And.intro rfl hq)) (fun c hq => have hp := (hp c); (And.intro hp.1 (let_k (Q := Q) hp.2 hq fun y_2 hp hq => (And.intro hp (let_0 (Q := Q) hq fun y_3 hq => (And.intro rfl hq))))))))))))))))
abbrev splitM_S : FnS := ⟨(.pair (.one (Ty.sl yy9)) (.one (Ty.sl yi))),(.pair (.one (Ty.sl yi)) (.pair (.one (Ty.sl yi)) (.one yi))),splitM_pre,splitM⟩
theorem splitM_ok : SpecOk Try.prog 11 (fnSpecR splitM_S) := SpecOk.fnR (fn := Try.f11) tt_ok sp_containsI_ok mixed (by kernel_rfl) (by kernel_rfl) (.pair (.one (Ty.sl yy9)) (.one (Ty.sl yi))) (.pair (.one (Ty.sl yi)) (.pair (.one (Ty.sl yi)) (.one yi))) splitM_pre splitM fun x hp S => ⟨_,_,(ItsOk.nil _ _),LpsOk.nil,splitM_fn x S (fun y => y = splitM x) hp rfl⟩
def sp_splitM : List (Nat × Ev.Spec) := (11,fnSpecR splitM_S) :: sp_containsI
theorem sp_splitM_ok : SpecsOk Try.prog sp_splitM := SpecsOk.add (fn := Try.f11) (by kernel_rfl) splitM_ok sp_containsI_ok
end Go.Proofs.Ytaipcbdilkcdbaa
