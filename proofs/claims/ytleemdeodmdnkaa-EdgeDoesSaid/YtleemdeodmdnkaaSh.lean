/- Models of functions of layer 14. -/
import Derived.Test.YtleemdeodmdnkaaFa
import Derived.Shelf.Sort.Plain
import Derived.Shelf.Slices.CompactI
import Derived.Shelf.Slices.Empties
import Derived.Shelf.Slices.In.SortNone
import Derived.Test.YtleemdeodmdnkaaEvY
import Derived.Test.YtleemdeodmdnkaaTt
noncomputable section
set_option linter.unusedSectionVars false
set_option linter.unusedVariables false
set_option linter.unusedSimpArgs false
namespace Go.Proofs.Ytleemdeodmdnkaa
open Go Go.Ev Go.Proofs
theorem key_58 : KeyE tt 58 yy2 := fun x y => by
 obtain ⟨a,b⟩ := x
 obtain ⟨c,d⟩ := y
 show some ((a == c) && ((b == d) && true)) = some ((a == c) && (b == d))
 rw [Bool.and_true]
def epairs_l0 (x : I9) : LoopD := ⟨[],⟨pvs 36 0 [(1,.v (.one (.ptr 0 0))),(3,.v (.one (.full 1))),(8,.v (.agg [.i .i64,.i .i64,.i .i64,.i .i64,.i .i64,.i .i64,.i .i64,.i .i64,.i .i64])),(9,.v (.one (.i .i64)))],[.cells [.i .i64,.i .i64,.i .i64,.i .i64,.i .i64,.i .i64,.i .i64,.i .i64,.i .i64] 51,.row yy2 2],0,none,[],[0,1,2,3,4,5,6,7,8,10,11,12,13,14,15,16,17,18],[19,9],[(.l yy2),.i],[.i x.1.1,.i x.1.2.1,.i x.1.2.2,.i x.2.1.1,.i x.2.1.2.1,.i x.2.1.2.2,.i x.2.2.1,.i x.2.2.2.1,.i x.2.2.2.2,.i x.1.1,.i x.1.2.1,.i x.1.2.2,.i x.2.1.1,.i x.2.1.2.1,.i x.2.1.2.2,.i x.2.2.1,.i x.2.2.2.1,.i x.2.2.2.2]⟩,[⟨(.exit 0),.normal,⟨pvs 36 0 [(3,.v (.one (.full 0)))],[.row yy2 2],0,none,[],[],[0],[(.l yy2)],[]⟩⟩]⟩
def epairs_l0_step (x : I9) (s : ((List I2) × Int)) : ((List I2) × Int) ⊕ (List I2) :=
 (if (s.2 < (3:Int)) then
 (if (((List.getD [x.1.1,x.1.2.1,x.1.2.2,x.2.1.1,x.2.1.2.1,x.2.1.2.2,x.2.2.1,x.2.2.2.1,x.2.2.2.2] ((Int.toNat s.2) * 3) (0:Int)) != (List.getD [x.1.1,x.1.2.1,x.1.2.2,x.2.1.1,x.2.1.2.1,x.2.1.2.2,x.2.2.1,x.2.2.2.1,x.2.2.2.2] ((0 + ((Int.toNat (Int.tmod (w64 (s.2 + (1:Int))) (3:Int))) * 3)) + 0) (0:Int))) = true) then
 (Sum.inl ((s.1 ++ [((minI (List.getD [x.1.1,x.1.2.1,x.1.2.2,x.2.1.1,x.2.1.2.1,x.2.1.2.2,x.2.2.1,x.2.2.2.1,x.2.2.2.2] ((Int.toNat s.2) * 3) (0:Int)) (List.getD [x.1.1,x.1.2.1,x.1.2.2,x.2.1.1,x.2.1.2.1,x.2.1.2.2,x.2.2.1,x.2.2.2.1,x.2.2.2.2] ((0 + ((Int.toNat (Int.tmod (w64 (s.2 + (1:Int))) (3:Int))) * 3)) + 0) (0:Int))),(maxI (List.getD [x.1.1,x.1.2.1,x.1.2.2,x.2.1.1,x.2.1.2.1,x.2.1.2.2,x.2.2.1,x.2.2.2.1,x.2.2.2.2] ((Int.toNat s.2) * 3) (0:Int)) (List.getD [x.1.1,x.1.2.1,x.1.2.2,x.2.1.1,x.2.1.2.1,x.2.1.2.2,x.2.2.1,x.2.2.2.1,x.2.2.2.2] ((0 + ((Int.toNat (Int.tmod (w64 (s.2 + (1:Int))) (3:Int))) * 3)) + 0) (0:Int))))]),(w64 (s.2 + (1:Int))))) else
 (Sum.inl (s.1,(w64 (s.2 + (1:Int)))))) else
 (Sum.inr (s.1)))
def epairs_l0_pre (x : I9) (s : ((List I2) × Int)) : Prop :=
 ((s.2 < (3:Int)) →
 ((((0:Int) ≤ s.2) ∧ (s.2 < (3:Int))) ∧
 ((((0:Int) ≤ (Int.tmod (w64 (s.2 + (1:Int))) (3:Int))) ∧ ((Int.tmod (w64 (s.2 + (1:Int))) (3:Int)) < (3:Int))) ∧
 (((((0 + ((Int.toNat (Int.tmod (w64 (s.2 + (1:Int))) (3:Int))) * 3)) + 0) + 1) ≤ 9) ∧
 ((((List.getD [x.1.1,x.1.2.1,x.1.2.2,x.2.1.1,x.2.1.2.1,x.2.1.2.2,x.2.2.1,x.2.2.2.1,x.2.2.2.2] ((Int.toNat s.2) * 3) (0:Int)) != (List.getD [x.1.1,x.1.2.1,x.1.2.2,x.2.1.1,x.2.1.2.1,x.2.1.2.2,x.2.2.1,x.2.2.2.1,x.2.2.2.2] ((0 + ((Int.toNat (Int.tmod (w64 (s.2 + (1:Int))) (3:Int))) * 3)) + 0) (0:Int))) = true) →
 (((List.length s.1) + 1) < 1099511627776))))))
def epairs_l0_t (x : I9) (s : ((List I2) × Int)) : Tr (((List I2) × Int) ⊕ (List I2)) true :=
 (.i10 (s.2 < (3:Int))
 (.oR s.2 (3:Int)
 (.oR (Int.tmod (w1 s.2) (3:Int)) (3:Int)
 (.od ((((0 + ((tN (Int.tmod (w1 s.2) (3:Int))) * 3)) + 0) + 1) ≤ 9)
 (.b10 ((List.getD [x.1.1,x.1.2.1,x.1.2.2,x.2.1.1,x.2.1.2.1,x.2.1.2.2,x.2.2.1,x.2.2.2.1,x.2.2.2.2] ((tN s.2) * 3) z0) != (List.getD [x.1.1,x.1.2.1,x.1.2.2,x.2.1.1,x.2.1.2.1,x.2.1.2.2,x.2.2.1,x.2.2.2.1,x.2.2.2.2] ((0 + ((tN (Int.tmod (w1 s.2) (3:Int))) * 3)) + 0) z0))
 (.od (((List.length s.1) + 1) < 1099511627776)
 (.ret (.inl ((s.1 ++ [((minI (List.getD [x.1.1,x.1.2.1,x.1.2.2,x.2.1.1,x.2.1.2.1,x.2.1.2.2,x.2.2.1,x.2.2.2.1,x.2.2.2.2] ((tN s.2) * 3) z0) (List.getD [x.1.1,x.1.2.1,x.1.2.2,x.2.1.1,x.2.1.2.1,x.2.1.2.2,x.2.2.1,x.2.2.2.1,x.2.2.2.2] ((0 + ((tN (Int.tmod (w1 s.2) (3:Int))) * 3)) + 0) z0)),(maxI (List.getD [x.1.1,x.1.2.1,x.1.2.2,x.2.1.1,x.2.1.2.1,x.2.1.2.2,x.2.2.1,x.2.2.2.1,x.2.2.2.2] ((tN s.2) * 3) z0) (List.getD [x.1.1,x.1.2.1,x.1.2.2,x.2.1.1,x.2.1.2.1,x.2.1.2.2,x.2.2.1,x.2.2.2.1,x.2.2.2.2] ((0 + ((tN (Int.tmod (w1 s.2) (3:Int))) * 3)) + 0) z0)))]),(w1 s.2)))))
 (.ret (.inl (s.1,(w1 s.2))))))))
 (.ret (.inr (s.1))))
def epairs (x : I9) : (List I2) :=
 (letV (run (epairs_l0_step x) ([],(0:Int))) fun r =>
 r)
def epairs_pre (x : I9) : Prop :=
 (Term (epairs_l0_step x) (epairs_l0_pre x) ([],(0:Int)))
def epairs_t (x : I9) : Tr (List I2) true :=
 (LoopD.lp (epairs_l0 x) (epairs_l0_t x) ([],z0) fun r =>
 (.ret r))
abbrev epairs_S : FnS := ⟨(.agg yy9),(.one (Ty.sl yy2)),epairs_pre,epairs⟩
theorem epairs_ok : SpecOk Try.prog 48 (fnSpec epairs_S) := SpecOk.tr epairs_S epairs_t (fn := Try.f48) tt_ok sp_ecmp_ok mixed (by kernel_rfl) (ItsOk.nil _ _) (fun x => (LpsOk.tr tt_ok (SpecsOk.ctxI sp_ecmp_ok (ItsOk.nil _ _)) mixed 0 (epairs_l0 x) (epairs_l0_t x) LpsOk.nil (by kernel_rfl) fun g s Q => (by kernel_rfl))) (fun x => (by kernel_rfl)) fun x Q => (by kernel_rfl)
def sp_epairs : List (Nat × Ev.Spec) := (48,fnSpec epairs_S) :: sp_ecmp
theorem sp_epairs_ok : SpecsOk Try.prog sp_epairs := SpecsOk.add (fn := Try.f48) (by kernel_rfl) epairs_ok sp_ecmp_ok
def etable_l2 (x : ((List I3) × ((List I2) × ((List I3) × (List I9))))) : LoopD := ⟨[],⟨pvs 50 0 [(3,.v (.one (.mp 0))),(4,.v (.one (.i .i64))),(11,.v (.one (.full 2))),(12,.v (.one (.i .i64))),(13,.v (.one (.i .i64))),(19,.v (.one (.full 3))),(20,.v (.one (.i .i64))),(21,.v (.one (.i .i64)))],[.grp Bool.true yy2 yi 1,.set 0,.row yy9 0,.row yy2 2],0,none,[],[1,6],[5,0,2,7,3,4],[(.l (.prod yy2 (.sl yi))),.i,.i,(.l yy2),.i,.i],[.i (x.2.2.2.length:Int),.l yy9 x.2.2.2]⟩,[⟨(.exit 2),.normal,⟨pvs 50 0 [(3,.v (.one (.mp 0))),(11,.v (.one (.full 2))),(12,.v (.one (.i .i64))),(13,.v (.one (.i .i64)))],[.grp Bool.true yy2 yi 1,.set 0,.row yy9 0],0,none,[],[0,3],[2,1],[(.l (.prod yy2 (.sl yi))),.i],[.i (x.2.2.2.length:Int),.l yy9 x.2.2.2]⟩⟩]⟩
def etable_l2_step (x : ((List I3) × ((List I2) × ((List I3) × (List I9))))) (s : ((List (I2 × (List Int))) × (Int × (Int × ((List I2) × I2))))) : ((List (I2 × (List Int))) × (Int × (Int × ((List I2) × I2)))) ⊕ ((List (I2 × (List Int))) × Int) :=
 (if (s.2.2.2.2.2 < s.2.2.2.2.1) then
 (letV (lookD (k := yy2) s.1 (List.getD s.2.2.2.1 (Int.toNat s.2.2.2.2.2) ((0:Int),(0:Int))) []) fun y =>
 (if (((y.length:Int) == (0:Int)) = true) then
 (letV (putM (k := yy2) s.1 (List.getD s.2.2.2.1 (Int.toNat s.2.2.2.2.2) ((0:Int),(0:Int))) (y ++ [s.2.1])) fun y_1 =>
 (Sum.inl (y_1,(s.2.1,(s.2.2.1,(s.2.2.2.1,(s.2.2.2.2.1,(w64 (s.2.2.2.2.2 + (1:Int)))))))))) else
 (if (((List.getD y (Int.toNat (w64 ((y.length:Int) - (1:Int)))) (0:Int)) != s.2.1) = true) then
 (letV (putM (k := yy2) s.1 (List.getD s.2.2.2.1 (Int.toNat s.2.2.2.2.2) ((0:Int),(0:Int))) (y ++ [s.2.1])) fun y_1 =>
 (Sum.inl (y_1,(s.2.1,(s.2.2.1,(s.2.2.2.1,(s.2.2.2.2.1,(w64 (s.2.2.2.2.2 + (1:Int)))))))))) else
 (Sum.inl (s.1,(s.2.1,(s.2.2.1,(s.2.2.2.1,(s.2.2.2.2.1,(w64 (s.2.2.2.2.2 + (1:Int)))))))))))) else
 (Sum.inr ((s.1,s.2.2.1))))
def etable_l2_pre (x : ((List I3) × ((List I2) × ((List I3) × (List I9))))) (s : ((List (I2 × (List Int))) × (Int × (Int × ((List I2) × I2))))) : Prop :=
 ((s.2.2.2.2.2 < s.2.2.2.2.1) →
 ((((0:Int) ≤ s.2.2.2.2.2) ∧ (s.2.2.2.2.2 < (s.2.2.2.1.length:Int))) ∧
 (((Int.toNat s.2.2.2.2.2) < (List.length s.2.2.2.1)) ∧
 (((Int.toNat s.2.2.2.2.2) < (List.length s.2.2.2.1)) ∧
 (letP (lookD (k := yy2) s.1 (List.getD s.2.2.2.1 (Int.toNat s.2.2.2.2.2) ((0:Int),(0:Int))) []) fun y =>
 (((((y.length:Int) == (0:Int)) = true) →
 (((List.length y) + 1) < 1099511627776)) ∧
 (¬ (((y.length:Int) == (0:Int)) = true) →
 ((((0:Int) ≤ (w64 ((y.length:Int) - (1:Int)))) ∧ ((w64 ((y.length:Int) - (1:Int))) < (y.length:Int))) ∧
 (((Int.toNat (w64 ((y.length:Int) - (1:Int)))) < (List.length y)) ∧
 (((Int.toNat (w64 ((y.length:Int) - (1:Int)))) < (List.length y)) ∧
 ((((List.getD y (Int.toNat (w64 ((y.length:Int) - (1:Int)))) (0:Int)) != s.2.1) = true) →
 (((List.length y) + 1) < 1099511627776))))))))))))
def etable_l2_t (x : ((List I3) × ((List I2) × ((List I3) × (List I9))))) (s : ((List (I2 × (List Int))) × (Int × (Int × ((List I2) × I2))))) : Tr (((List (I2 × (List Int))) × (Int × (Int × ((List I2) × I2)))) ⊕ ((List (I2 × (List Int))) × Int)) true :=
 (.i10 (s.2.2.2.2.2 < s.2.2.2.2.1)
 (.oI2 s.2.2.2.2.2 s.2.2.2.1
 (.fact (KeyE tt 58 yy2) key_58
 (.lt (lookD (k := yy2) s.1 (gT s.2.2.2.1 s.2.2.2.2.2 zz2) []) fun y =>
 (.b11 ((nL y) == z0)
 (.og (true && (decide (((List.length y) + 1) < 1099511627776))) (((List.length y) + 1) < 1099511627776) (fun h => (and_t rfl (decide_eq_true h)))
 (.fact (KeyE tt 58 yy2) key_58
 (.fact ((gT s.2.2.2.1 s.2.2.2.2.2 zz2) = (gT s.2.2.2.1 s.2.2.2.2.2 zz2)) rfl
 (.lt (putM (k := yy2) s.1 (gT s.2.2.2.1 s.2.2.2.2.2 zz2) (y ++ [s.2.1])) fun y_1 =>
 (.ret (.inl (y_1,(s.2.1,(s.2.2.1,(s.2.2.2.1,(s.2.2.2.2.1,(w1 s.2.2.2.2.2))))))))))))
 (.oI2 (wm (nL y)) y
 (.b10 ((gI y (wm (nL y))) != s.2.1)
 (.og (true && (decide (((List.length y) + 1) < 1099511627776))) (((List.length y) + 1) < 1099511627776) (fun h => (and_t rfl (decide_eq_true h)))
 (.fact (KeyE tt 58 yy2) key_58
 (.fact ((gT s.2.2.2.1 s.2.2.2.2.2 zz2) = (gT s.2.2.2.1 s.2.2.2.2.2 zz2)) rfl
 (.lt (putM (k := yy2) s.1 (gT s.2.2.2.1 s.2.2.2.2.2 zz2) (y ++ [s.2.1])) fun y_1 =>
 (.ret (.inl (y_1,(s.2.1,(s.2.2.1,(s.2.2.2.1,(s.2.2.2.2.1,(w1 s.2.2.2.2.2))))))))))))
 (.ret (.inl (s.1,(s.2.1,(s.2.2.1,(s.2.2.2.1,(s.2.2.2.2.1,(w1 s.2.2.2.2.2))))))))))))))
 (.ret (.inr ((s.1,s.2.2.1)))))
def etable_l0 (x : ((List I3) × ((List I2) × ((List I3) × (List I9))))) : LoopD := ⟨[],⟨pvs 50 0 [(3,.v (.one (.mp 0))),(11,.v (.one (.full 2))),(12,.v (.one (.i .i64))),(13,.v (.one (.i .i64)))],[.grp Bool.true yy2 yi 1,.set 0,.row yy9 0],0,none,[],[0,3],[2,1],[(.l (.prod yy2 (.sl yi))),.i],[.i (x.2.2.2.length:Int),.l yy9 x.2.2.2]⟩,[⟨(.exit 0),.normal,⟨pvs 50 0 [(3,.v (.one (.mp 0)))],[.grp Bool.true yy2 yi 1,.set 0],0,none,[],[],[0],[(.l (.prod yy2 (.sl yi)))],[]⟩⟩]⟩
def etable_l0_step (x : ((List I3) × ((List I2) × ((List I3) × (List I9))))) (s : ((List (I2 × (List Int))) × Int)) : ((List (I2 × (List Int))) × Int) ⊕ (List (I2 × (List Int))) :=
 (if (s.2 < (x.2.2.2.length:Int)) then
 (letV (epairs (List.getD x.2.2.2 (Int.toNat s.2) (((0:Int),((0:Int),(0:Int))),(((0:Int),((0:Int),(0:Int))),((0:Int),((0:Int),(0:Int))))))) fun y =>
 (letV (run (etable_l2_step x) (s.1,(s.2,(s.2,(y,((y.length:Int),(0:Int))))))) fun r =>
 (Sum.inl (r.1,(w64 (r.2 + (1:Int))))))) else
 (Sum.inr (s.1)))
def etable_l0_pre (x : ((List I3) × ((List I2) × ((List I3) × (List I9))))) (s : ((List (I2 × (List Int))) × Int)) : Prop :=
 ((s.2 < (x.2.2.2.length:Int)) →
 ((((0:Int) ≤ s.2) ∧ (s.2 < (x.2.2.2.length:Int))) ∧
 (((Int.toNat s.2) < (List.length x.2.2.2)) ∧
 (((Int.toNat s.2) < (List.length x.2.2.2)) ∧
 ((epairs_pre (List.getD x.2.2.2 (Int.toNat s.2) (((0:Int),((0:Int),(0:Int))),(((0:Int),((0:Int),(0:Int))),((0:Int),((0:Int),(0:Int))))))) ∧
 letP (epairs (List.getD x.2.2.2 (Int.toNat s.2) (((0:Int),((0:Int),(0:Int))),(((0:Int),((0:Int),(0:Int))),((0:Int),((0:Int),(0:Int))))))) fun y =>
 (Term (etable_l2_step x) (etable_l2_pre x) (s.1,(s.2,(s.2,(y,((y.length:Int),(0:Int))))))))))))
def etable_l0_t (x : ((List I3) × ((List I2) × ((List I3) × (List I9))))) (s : ((List (I2 × (List Int))) × Int)) : Tr (((List (I2 × (List Int))) × Int) ⊕ (List (I2 × (List Int)))) true :=
 (.i10 (s.2 < (nL x.2.2.2))
 (.oI2 s.2 x.2.2.2
 (.fn epairs_S (gT x.2.2.2 s.2 zz9) fun y =>
 (LoopD.lp (etable_l2 x) (etable_l2_t x) (s.1,(s.2,(s.2,(y,((nL y),z0))))) fun r =>
 (.ret (.inl (r.1,(w1 r.2)))))))
 (.ret (.inr (s.1))))
def etable (x : ((List I3) × ((List I2) × ((List I3) × (List I9))))) : (List (I2 × (List Int))) :=
 (letV (run (etable_l0_step x) ([],(0:Int))) fun r =>
 r)
def etable_pre (x : ((List I3) × ((List I2) × ((List I3) × (List I9))))) : Prop :=
 (Term (etable_l0_step x) (etable_l0_pre x) ([],(0:Int)))
def etable_t (x : ((List I3) × ((List I2) × ((List I3) × (List I9))))) : Tr (List (I2 × (List Int))) true :=
 (LoopD.lp (etable_l0 x) (etable_l0_t x) ([],z0) fun r =>
 (.ret r))
abbrev etable_S : FnG := ⟨(.agg (Ty.prod (Ty.sl yy3) (Ty.prod (Ty.sl yy2) (Ty.prod (Ty.sl yy3) (Ty.sl yy9))))),(GPar.mk true yy2 yi),etable_pre,etable⟩
theorem etable_ok : SpecOk Try.prog 30 (fnSpecG etable_S) := SpecOk.trG etable_S etable_t (fn := Try.f30) tt_ok sp_epairs_ok mixed (by kernel_rfl) (ItsOk.nil _ _) (fun x => (LpsOk.tr tt_ok (SpecsOk.ctxI sp_epairs_ok (ItsOk.nil _ _)) mixed 0 (etable_l0 x) (etable_l0_t x) (LpsOk.tr tt_ok (SpecsOk.ctxI sp_epairs_ok (ItsOk.nil _ _)) mixed 2 (etable_l2 x) (etable_l2_t x) LpsOk.nil (by kernel_rfl) fun g s Q => (by kernel_rfl)) (by kernel_rfl) fun g s Q => (by kernel_rfl))) (fun x => (by kernel_rfl)) fun x Q => (by kernel_rfl)
def sp_etable : List (Nat × Ev.Spec) := (30,fnSpecG etable_S) :: sp_epairs
theorem sp_etable_ok : SpecsOk Try.prog sp_etable := SpecsOk.add (fn := Try.f30) (by kernel_rfl) etable_ok sp_epairs_ok
end Go.Proofs.Ytleemdeodmdnkaa

namespace Go.Proofs
open Go.Shelf
def Try.lays189_ren : Go.Shelf.Ren := ⟨fun | 189 => 55 | 125 => 50 | 257 => 72 | 128 => 68 | 129 => 69 | 294 => 81 | 295 => 82 | 296 => 83 | 297 => 84 | 298 => 85 | 299 => 86 | 216 => 87 | 300 => 88 | 301 => 89 | 328 => 91 | 329 => 76 | 330 => 77 | 331 => 92 | 332 => 93 | 215 => 51 | 343 => 94 | n => n,fun | 28 => 34 | 3 => 3 | 46 => 77 | 0 => 0 | 51 => 99 | 53 => 101 | 4 => 4 | 183 => 92 | 182 => 91 | 131 => 96 | 5 => 5 | 9 => 9 | 218 => 109 | 222 => 113 | 228 => 121 | 229 => 122 | n => n,fun | n => n⟩
theorem Try.lays189 : Go.Proofs.Lays.n189 Try.prog Try.lays189_ren := {
 mixed := by kernel_rfl
 f125 := Try.func50.trans (congrArg some (by kernel_rfl))
 f128 := Try.func68.trans (congrArg some (by kernel_rfl))
 f129 := Try.func69.trans (congrArg some (by kernel_rfl))
 f189 := Try.func55.trans (congrArg some (by kernel_rfl))
 f215 := Try.func51.trans (congrArg some (by kernel_rfl))
 f216 := Try.func87.trans (congrArg some (by kernel_rfl))
 f257 := Try.func72.trans (congrArg some (by kernel_rfl))
 f294 := Try.func81.trans (congrArg some (by kernel_rfl))
 f295 := Try.func82.trans (congrArg some (by kernel_rfl))
 f296 := Try.func83.trans (congrArg some (by kernel_rfl))
 f297 := Try.func84.trans (congrArg some (by kernel_rfl))
 f298 := Try.func85.trans (congrArg some (by kernel_rfl))
 f299 := Try.func86.trans (congrArg some (by kernel_rfl))
 f300 := Try.func88.trans (congrArg some (by kernel_rfl))
 f301 := Try.func89.trans (congrArg some (by kernel_rfl))
 f328 := Try.func91.trans (congrArg some (by kernel_rfl))
 f329 := Try.func76.trans (congrArg some (by kernel_rfl))
 f330 := Try.func77.trans (congrArg some (by kernel_rfl))
 f331 := Try.func92.trans (congrArg some (by kernel_rfl))
 f332 := Try.func93.trans (congrArg some (by kernel_rfl))
 f343 := Try.func94.trans (congrArg some (by kernel_rfl))
 t0 := Try.underlying0
 a0 := Try.isAgg0
 z0 := Try.sizeOf0
 v0 := Try.zeroValue0
 t3 := Try.underlying3
 a3 := Try.isAgg3
 z3 := Try.sizeOf3
 v3 := Try.zeroValue3
 t4 := Try.underlying4
 a4 := Try.isAgg4
 z4 := Try.sizeOf4
 v4 := Try.zeroValue4
 t5 := Try.underlying5
 a5 := Try.isAgg5
 z5 := Try.sizeOf5
 v5 := Try.zeroValue5
 t9 := Try.underlying9
 a9 := Try.isAgg9
 z9 := Try.sizeOf9
 v9 := Try.zeroValue9
 t28 := Try.underlying34
 a28 := Try.isAgg34
 z28 := Try.sizeOf34
 v28 := Try.zeroValue34
 t46 := Try.underlying77
 a46 := Try.isAgg77
 z46 := Try.sizeOf77
 v46 := Try.zeroValue77
 t51 := Try.underlying99
 a51 := Try.isAgg99
 z51 := Try.sizeOf99
 v51 := Try.zeroValue99
 t53 := Try.underlying101
 a53 := Try.isAgg101
 z53 := Try.sizeOf101
 v53 := Try.zeroValue101
 t131 := Try.underlying96
 a131 := Try.isAgg96
 z131 := Try.sizeOf96
 v131 := Try.zeroValue96
 t182 := Try.underlying91
 a182 := Try.isAgg91
 z182 := Try.sizeOf91
 v182 := Try.zeroValue91
 t183 := Try.underlying92
 a183 := Try.isAgg92
 z183 := Try.sizeOf92
 v183 := Try.zeroValue92
 t218 := Try.underlying109
 a218 := Try.isAgg109
 z218 := Try.sizeOf109
 v218 := Try.zeroValue109
 t222 := Try.underlying113
 a222 := Try.isAgg113
 z222 := Try.sizeOf113
 v222 := Try.zeroValue113
 t228 := Try.underlying121
 a228 := Try.isAgg121
 z228 := Try.sizeOf121
 v228 := Try.zeroValue121
 t229 := Try.underlying122
 a229 := Try.isAgg122
 z229 := Try.sizeOf122
 v229 := Try.zeroValue122 }
open Go.Sort Go.RowKit in
theorem Try.slices_Sort_int (blk off cap:Nat) (zs : List Int) (w : World) (hH : Holds (Value.int .i64) w blk off zs.toArray) (hblk : blk < w.heap.size) (hsz : zs.length < 4611686018427387904) :
  Calls Try.prog 55 #[.slice (some ⟨blk,off,none⟩) zs.length cap] w fun e w' =>
   e = .returned (.tuple #[]) ∧ ∃ n os,w' = grow (putRow (Value.int .i64) (Sort.ahead w n) blk off (zs.mergeSort fun x y => decide (x ≤ y)).toArray) os := Any.slices_Sort_int Try.lays189 blk off cap zs w hH hblk hsz
def Try.laysNm220_ren : Go.Shelf.Ren := ⟨fun | 20 => 56 | n => n,fun | 22 => 34 | 3 => 3 | 4 => 4 | 0 => 0 | n => n,fun | n => n⟩
theorem Try.laysNm220 : Go.Proofs.Lays2.n20 Try.prog Try.laysNm220_ren := {
 mixed := by kernel_rfl
 f20 := Try.func56.trans (congrArg some (by kernel_rfl))
 t0 := Try.underlying0
 a0 := Try.isAgg0
 z0 := Try.sizeOf0
 v0 := Try.zeroValue0
 t3 := Try.underlying3
 a3 := Try.isAgg3
 z3 := Try.sizeOf3
 v3 := Try.zeroValue3
 t4 := Try.underlying4
 a4 := Try.isAgg4
 z4 := Try.sizeOf4
 v4 := Try.zeroValue4
 t22 := Try.underlying34
 a22 := Try.isAgg34
 z22 := Try.sizeOf34
 v22 := Try.zeroValue34
 i3 := by kernel_rfl }
open Go.RowKit Go.Lib Go.Sort in
theorem Try.slices_Compact_int (blk off cap:Nat) (zs : List Int) (w : World) (hH : Holds (Value.int .i64) w blk off zs.toArray) (hsz : zs.length ≤ 9223372036854775807) (hcap : zs.length ≤ cap) :
  Calls Try.prog 56 #[.slice (some ⟨blk,off,none⟩) zs.length cap] w fun e w' => e = .returned (.slice (some ⟨blk,off,none⟩) (Lib.compact zs).length cap) ∧ ∃ q,w' = putRow (Value.int .i64) (Sort.ahead w q) blk off (Lib.compact zs ++ List.replicate (zs.length - (Lib.compact zs).length) 0).toArray := Any.slices_Compact_int Try.laysNm220 blk off cap zs w hH hsz hcap
open Go.RowKit Go.Lib Go.Sort in
theorem Try.slices_Compact_int_empty (a : Option Addr) (cap:Nat) (w : World) :
  Calls Try.prog 56 #[.slice a 0 cap] w fun e w' => e = .returned (.slice a 0 cap) ∧ w' = w := Any.slices_Compact_int_empty Try.laysNm220 a cap w
namespace Ytleemdeodmdnkaa
open Go Go.Ev Go.Proofs
theorem slsort_ok : SpecOk Try.prog 55 sortSpec := sortSpec_ok Try.slices_Sort_int fun p cap w => Any.slices_Sort_int_none Try.lays189 p cap w
theorem slcomp_ok : SpecOk Try.prog 56 compSpec := compSpec_ok Try.slices_Compact_int Try.slices_Compact_int_empty
end Ytleemdeodmdnkaa
end Go.Proofs
