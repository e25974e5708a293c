/- Models of functions of layer 14. -/
import Derived.Test.YtkbmjhabfjgoiaaGreatQj
import Derived.Shelf.Sort.Plain
import Derived.Shelf.Slices.CompactI
import Derived.Shelf.Slices.Delete
import Derived.Shelf.Slices.Empties
import Derived.Shelf.Slices.In.SortNone
import Derived.Test.YtkbmjhabfjgoiaaGreatEvY
import Derived.Test.YtkbmjhabfjgoiaaGreatTt
noncomputable section
set_option linter.unusedSectionVars false
set_option linter.unusedVariables false
set_option linter.unusedSimpArgs false
namespace Go.Proofs.YtkbmjhabfjgoiaaGreat
open Go Go.Ev Go.Proofs
theorem key_127 : KeyE tt 127 yy2 := fun x y => by
 obtain ⟨a,b⟩ := x
 obtain ⟨c,d⟩ := y
 show some ((a == c) && ((b == d) && true)) = some ((a == c) && (b == d))
 rw [Bool.and_true]
def epairs_l0 (x : I9) : LoopD := ⟨[],⟨pvs 36 0 [(1,.v (.one (.ptr 0 0))),(3,.v (.one (.full 1))),(8,.v (.agg [.i .i64,.i .i64,.i .i64,.i .i64,.i .i64,.i .i64,.i .i64,.i .i64,.i .i64])),(9,.v (.one (.i .i64)))],[.cells [.i .i64,.i .i64,.i .i64,.i .i64,.i .i64,.i .i64,.i .i64,.i .i64,.i .i64] 85,.row yy2 2],0,none,[],[0,1,2,3,4,5,6,7,8,10,11,12,13,14,15,16,17,18],[19,9],[(.l yy2),.i],[.i x.1.1,.i x.1.2.1,.i x.1.2.2,.i x.2.1.1,.i x.2.1.2.1,.i x.2.1.2.2,.i x.2.2.1,.i x.2.2.2.1,.i x.2.2.2.2,.i x.1.1,.i x.1.2.1,.i x.1.2.2,.i x.2.1.1,.i x.2.1.2.1,.i x.2.1.2.2,.i x.2.2.1,.i x.2.2.2.1,.i x.2.2.2.2]⟩,[⟨(.exit 0),.normal,⟨pvs 36 0 [(3,.v (.one (.full 0)))],[.row yy2 2],0,none,[],[],[0],[(.l yy2)],[]⟩⟩]⟩
def epairs_l0_step (x : I9) (s : ((List I2) × Int)) : ((List I2) × Int) ⊕ (List I2) :=
 (if (s.2 < (3:Int)) then
 (if (((List.getD [x.1.1,x.1.2.1,x.1.2.2,x.2.1.1,x.2.1.2.1,x.2.1.2.2,x.2.2.1,x.2.2.2.1,x.2.2.2.2] ((Int.toNat s.2) * 3) (0:Int)) != (List.getD [x.1.1,x.1.2.1,x.1.2.2,x.2.1.1,x.2.1.2.1,x.2.1.2.2,x.2.2.1,x.2.2.2.1,x.2.2.2.2] ((0 + ((Int.toNat (Int.tmod (w64 (s.2 + (1:Int))) (3:Int))) * 3)) + 0) (0:Int))) = true) then
 (Sum.inl ((s.1 ++ [((minI (List.getD [x.1.1,x.1.2.1,x.1.2.2,x.2.1.1,x.2.1.2.1,x.2.1.2.2,x.2.2.1,x.2.2.2.1,x.2.2.2.2] ((Int.toNat s.2) * 3) (0:Int)) (List.getD [x.1.1,x.1.2.1,x.1.2.2,x.2.1.1,x.2.1.2.1,x.2.1.2.2,x.2.2.1,x.2.2.2.1,x.2.2.2.2] ((0 + ((Int.toNat (Int.tmod (w64 (s.2 + (1:Int))) (3:Int))) * 3)) + 0) (0:Int))),(maxI (List.getD [x.1.1,x.1.2.1,x.1.2.2,x.2.1.1,x.2.1.2.1,x.2.1.2.2,x.2.2.1,x.2.2.2.1,x.2.2.2.2] ((Int.toNat s.2) * 3) (0:Int)) (List.getD [x.1.1,x.1.2.1,x.1.2.2,x.2.1.1,x.2.1.2.1,x.2.1.2.2,x.2.2.1,x.2.2.2.1,x.2.2.2.2] ((0 + ((Int.toNat (Int.tmod (w64 (s.2 + (1:Int))) (3:Int))) * 3)) + 0) (0:Int))))]),(w64 (s.2 + (1:Int))))) else
 (Sum.inl (s.1,(w64 (s.2 + (1:Int)))))) else
 (Sum.inr (s.1)))
def epairs_l0_pre (x : I9) (s : ((List I2) × Int)) : Prop :=
 ((s.2 < (3:Int)) →
 ((((0:Int) ≤ s.2) ∧ (s.2 < (3:Int))) ∧
 ((((0:Int) ≤ (Int.tmod (w64 (s.2 + (1:Int))) (3:Int))) ∧ ((Int.tmod (w64 (s.2 + (1:Int))) (3:Int)) < (3:Int))) ∧
 (((((0 + ((Int.toNat (Int.tmod (w64 (s.2 + (1:Int))) (3:Int))) * 3)) + 0) + 1) ≤ 9) ∧
 ((((List.getD [x.1.1,x.1.2.1,x.1.2.2,x.2.1.1,x.2.1.2.1,x.2.1.2.2,x.2.2.1,x.2.2.2.1,x.2.2.2.2] ((Int.toNat s.2) * 3) (0:Int)) != (List.getD [x.1.1,x.1.2.1,x.1.2.2,x.2.1.1,x.2.1.2.1,x.2.1.2.2,x.2.2.1,x.2.2.2.1,x.2.2.2.2] ((0 + ((Int.toNat (Int.tmod (w64 (s.2 + (1:Int))) (3:Int))) * 3)) + 0) (0:Int))) = true) →
 (((List.length s.1) + 1) < 1099511627776))))))
def epairs_l0_t (x : I9) (s : ((List I2) × Int)) : Tr (((List I2) × Int) ⊕ (List I2)) true :=
 (.i10 (s.2 < (3:Int))
 (.oR s.2 (3:Int)
 (.oR (Int.tmod (w1 s.2) (3:Int)) (3:Int)
 (.od ((((0 + ((tN (Int.tmod (w1 s.2) (3:Int))) * 3)) + 0) + 1) ≤ 9)
 (.b10 ((List.getD [x.1.1,x.1.2.1,x.1.2.2,x.2.1.1,x.2.1.2.1,x.2.1.2.2,x.2.2.1,x.2.2.2.1,x.2.2.2.2] ((tN s.2) * 3) z0) != (List.getD [x.1.1,x.1.2.1,x.1.2.2,x.2.1.1,x.2.1.2.1,x.2.1.2.2,x.2.2.1,x.2.2.2.1,x.2.2.2.2] ((0 + ((tN (Int.tmod (w1 s.2) (3:Int))) * 3)) + 0) z0))
 (.od (((List.length s.1) + 1) < 1099511627776)
 (.ret (.inl ((s.1 ++ [((minI (List.getD [x.1.1,x.1.2.1,x.1.2.2,x.2.1.1,x.2.1.2.1,x.2.1.2.2,x.2.2.1,x.2.2.2.1,x.2.2.2.2] ((tN s.2) * 3) z0) (List.getD [x.1.1,x.1.2.1,x.1.2.2,x.2.1.1,x.2.1.2.1,x.2.1.2.2,x.2.2.1,x.2.2.2.1,x.2.2.2.2] ((0 + ((tN (Int.tmod (w1 s.2) (3:Int))) * 3)) + 0) z0)),(maxI (List.getD [x.1.1,x.1.2.1,x.1.2.2,x.2.1.1,x.2.1.2.1,x.2.1.2.2,x.2.2.1,x.2.2.2.1,x.2.2.2.2] ((tN s.2) * 3) z0) (List.getD [x.1.1,x.1.2.1,x.1.2.2,x.2.1.1,x.2.1.2.1,x.2.1.2.2,x.2.2.1,x.2.2.2.1,x.2.2.2.2] ((0 + ((tN (Int.tmod (w1 s.2) (3:Int))) * 3)) + 0) z0)))]),(w1 s.2)))))
 (.ret (.inl (s.1,(w1 s.2))))))))
 (.ret (.inr (s.1))))
def epairs (x : I9) : (List I2) :=
 (letV (run (epairs_l0_step x) ([],(0:Int))) fun r =>
 r)
def epairs_pre (x : I9) : Prop :=
 (Term (epairs_l0_step x) (epairs_l0_pre x) ([],(0:Int)))
def epairs_t (x : I9) : Tr (List I2) true :=
 (LoopD.lp (epairs_l0 x) (epairs_l0_t x) ([],z0) fun r =>
 (.ret r))
abbrev epairs_S : FnS := ⟨(.agg yy9),(.one (Ty.sl yy2)),epairs_pre,epairs⟩
theorem epairs_ok : SpecOk Tryz.prog 94 (fnSpec epairs_S) := SpecOk.tr epairs_S epairs_t (fn := Tryz.f94) tt_ok sp_moverlap_ok mixed (by kernel_rfl) (ItsOk.nil _ _) (fun x => (LpsOk.tr tt_ok (SpecsOk.ctxI sp_moverlap_ok (ItsOk.nil _ _)) mixed 0 (epairs_l0 x) (epairs_l0_t x) LpsOk.nil (by kernel_rfl) fun g s Q => (by kernel_rfl))) (fun x => (by kernel_rfl)) fun x Q => (by kernel_rfl)
def sp_epairs : List (Nat × Ev.Spec) := (94,fnSpec epairs_S) :: sp_moverlap
theorem sp_epairs_ok : SpecsOk Tryz.prog sp_epairs := SpecsOk.add (fn := Tryz.f94) (by kernel_rfl) epairs_ok sp_moverlap_ok
def etable_l2 (x : ((List I3) × ((List I2) × ((List I3) × (List I9))))) : LoopD := ⟨[],⟨pvs 50 0 [(3,.v (.one (.mp 0))),(4,.v (.one (.i .i64))),(11,.v (.one (.full 2))),(12,.v (.one (.i .i64))),(13,.v (.one (.i .i64))),(19,.v (.one (.full 3))),(20,.v (.one (.i .i64))),(21,.v (.one (.i .i64)))],[.grp Bool.true yy2 yi 1,.set 0,.row yy9 0,.row yy2 2],0,none,[],[1,6],[5,0,2,7,3,4],[(.l (.prod yy2 (.sl yi))),.i,.i,(.l yy2),.i,.i],[.i (x.2.2.2.length:Int),.l yy9 x.2.2.2]⟩,[⟨(.exit 2),.normal,⟨pvs 50 0 [(3,.v (.one (.mp 0))),(11,.v (.one (.full 2))),(12,.v (.one (.i .i64))),(13,.v (.one (.i .i64)))],[.grp Bool.true yy2 yi 1,.set 0,.row yy9 0],0,none,[],[0,3],[2,1],[(.l (.prod yy2 (.sl yi))),.i],[.i (x.2.2.2.length:Int),.l yy9 x.2.2.2]⟩⟩]⟩
def etable_l2_step (x : ((List I3) × ((List I2) × ((List I3) × (List I9))))) (s : ((List (I2 × (List Int))) × (Int × (Int × ((List I2) × I2))))) : ((List (I2 × (List Int))) × (Int × (Int × ((List I2) × I2)))) ⊕ ((List (I2 × (List Int))) × Int) :=
 (if (s.2.2.2.2.2 < s.2.2.2.2.1) then
 (letV (lookD (k := yy2) s.1 (List.getD s.2.2.2.1 (Int.toNat s.2.2.2.2.2) ((0:Int),(0:Int))) []) fun y =>
 (if (((y.length:Int) == (0:Int)) = true) then
 (letV (putM (k := yy2) s.1 (List.getD s.2.2.2.1 (Int.toNat s.2.2.2.2.2) ((0:Int),(0:Int))) (y ++ [s.2.1])) fun y_1 =>
 (Sum.inl (y_1,(s.2.1,(s.2.2.1,(s.2.2.2.1,(s.2.2.2.2.1,(w64 (s.2.2.2.2.2 + (1:Int)))))))))) else
 (if (((List.getD y (Int.toNat (w64 ((y.length:Int) - (1:Int)))) (0:Int)) != s.2.1) = true) then
 (letV (putM (k := yy2) s.1 (List.getD s.2.2.2.1 (Int.toNat s.2.2.2.2.2) ((0:Int),(0:Int))) (y ++ [s.2.1])) fun y_1 =>
 (Sum.inl (y_1,(s.2.1,(s.2.2.1,(s.2.2.2.1,(s.2.2.2.2.1,(w64 (s.2.2.2.2.2 + (1:Int)))))))))) else
 (Sum.inl (s.1,(s.2.1,(s.2.2.1,(s.2.2.2.1,(s.2.2.2.2.1,(w64 (s.2.2.2.2.2 + (1:Int)))))))))))) else
 (Sum.inr ((s.1,s.2.2.1))))
def etable_l2_pre (x : ((List I3) × ((List I2) × ((List I3) × (List I9))))) (s : ((List (I2 × (List Int))) × (Int × (Int × ((List I2) × I2))))) : Prop :=
 ((s.2.2.2.2.2 < s.2.2.2.2.1) →
 ((((0:Int) ≤ s.2.2.2.2.2) ∧ (s.2.2.2.2.2 < (s.2.2.2.1.length:Int))) ∧
 (((Int.toNat s.2.2.2.2.2) < (List.length s.2.2.2.1)) ∧
 (((Int.toNat s.2.2.2.2.2) < (List.length s.2.2.2.1)) ∧
 (letP (lookD (k := yy2) s.1 (List.getD s.2.2.2.1 (Int.toNat s.2.2.2.2.2) ((0:Int),(0:Int))) []) fun y =>
 (((((y.length:Int) == (0:Int)) = true) →
 (((List.length y) + 1) < 1099511627776)) ∧
 (¬ (((y.length:Int) == (0:Int)) = true) →
 ((((0:Int) ≤ (w64 ((y.length:Int) - (1:Int)))) ∧ ((w64 ((y.length:Int) - (1:Int))) < (y.length:Int))) ∧
 (((Int.toNat (w64 ((y.length:Int) - (1:Int)))) < (List.length y)) ∧
 (((Int.toNat (w64 ((y.length:Int) - (1:Int)))) < (List.length y)) ∧
 ((((List.getD y (Int.toNat (w64 ((y.length:Int) - (1:Int)))) (0:Int)) != s.2.1) = true) →
 (((List.length y) + 1) < 1099511627776))))))))))))
def etable_l2_t (x : ((List I3) × ((List I2) × ((List I3) × (List I9))))) (s : ((List (I2 × (List Int))) × (Int × (Int × ((List I2) × I2))))) : Tr (((List (I2 × (List Int))) × (Int × (Int × ((List I2) × I2)))) ⊕ ((List (I2 × (List Int))) × Int)) true :=
 (.i10 (s.2.2.2.2.2 < s.2.2.2.2.1)
 (.oI2 s.2.2.2.2.2 s.2.2.2.1
 (.fact (KeyE tt 127 yy2) key_127
 (.lt (lookD (k := yy2) s.1 (gT s.2.2.2.1 s.2.2.2.2.2 zz2) []) fun y =>
 (.b11 ((nL y) == z0)
 (.og (true && (decide (((List.length y) + 1) < 1099511627776))) (((List.length y) + 1) < 1099511627776) (fun h => (and_t rfl (decide_eq_true h)))
 (.fact (KeyE tt 127 yy2) key_127
 (.fact ((gT s.2.2.2.1 s.2.2.2.2.2 zz2) = (gT s.2.2.2.1 s.2.2.2.2.2 zz2)) rfl
 (.lt (putM (k := yy2) s.1 (gT s.2.2.2.1 s.2.2.2.2.2 zz2) (y ++ [s.2.1])) fun y_1 =>
 (.ret (.inl (y_1,(s.2.1,(s.2.2.1,(s.2.2.2.1,(s.2.2.2.2.1,(w1 s.2.2.2.2.2))))))))))))
 (.oI2 (wm (nL y)) y
 (.b10 ((gI y (wm (nL y))) != s.2.1)
 (.og (true && (decide (((List.length y) + 1) < 1099511627776))) (((List.length y) + 1) < 1099511627776) (fun h => (and_t rfl (decide_eq_true h)))
 (.fact (KeyE tt 127 yy2) key_127
 (.fact ((gT s.2.2.2.1 s.2.2.2.2.2 zz2) = (gT s.2.2.2.1 s.2.2.2.2.2 zz2)) rfl
 (.lt (putM (k := yy2) s.1 (gT s.2.2.2.1 s.2.2.2.2.2 zz2) (y ++ [s.2.1])) fun y_1 =>
 (.ret (.inl (y_1,(s.2.1,(s.2.2.1,(s.2.2.2.1,(s.2.2.2.2.1,(w1 s.2.2.2.2.2))))))))))))
 (.ret (.inl (s.1,(s.2.1,(s.2.2.1,(s.2.2.2.1,(s.2.2.2.2.1,(w1 s.2.2.2.2.2))))))))))))))
 (.ret (.inr ((s.1,s.2.2.1)))))
def etable_l0 (x : ((List I3) × ((List I2) × ((List I3) × (List I9))))) : LoopD := ⟨[],⟨pvs 50 0 [(3,.v (.one (.mp 0))),(11,.v (.one (.full 2))),(12,.v (.one (.i .i64))),(13,.v (.one (.i .i64)))],[.grp Bool.true yy2 yi 1,.set 0,.row yy9 0],0,none,[],[0,3],[2,1],[(.l (.prod yy2 (.sl yi))),.i],[.i (x.2.2.2.length:Int),.l yy9 x.2.2.2]⟩,[⟨(.exit 0),.normal,⟨pvs 50 0 [(3,.v (.one (.mp 0)))],[.grp Bool.true yy2 yi 1,.set 0],0,none,[],[],[0],[(.l (.prod yy2 (.sl yi)))],[]⟩⟩]⟩
def etable_l0_step (x : ((List I3) × ((List I2) × ((List I3) × (List I9))))) (s : ((List (I2 × (List Int))) × Int)) : ((List (I2 × (List Int))) × Int) ⊕ (List (I2 × (List Int))) :=
 (if (s.2 < (x.2.2.2.length:Int)) then
 (letV (epairs (List.getD x.2.2.2 (Int.toNat s.2) (((0:Int),((0:Int),(0:Int))),(((0:Int),((0:Int),(0:Int))),((0:Int),((0:Int),(0:Int))))))) fun y =>
 (letV (run (etable_l2_step x) (s.1,(s.2,(s.2,(y,((y.length:Int),(0:Int))))))) fun r =>
 (Sum.inl (r.1,(w64 (r.2 + (1:Int))))))) else
 (Sum.inr (s.1)))
def etable_l0_pre (x : ((List I3) × ((List I2) × ((List I3) × (List I9))))) (s : ((List (I2 × (List Int))) × Int)) : Prop :=
 ((s.2 < (x.2.2.2.length:Int)) →
 ((((0:Int) ≤ s.2) ∧ (s.2 < (x.2.2.2.length:Int))) ∧
 (((Int.toNat s.2) < (List.length x.2.2.2)) ∧
 (((Int.toNat s.2) < (List.length x.2.2.2)) ∧
 ((epairs_pre (List.getD x.2.2.2 (Int.toNat s.2) (((0:Int),((0:Int),(0:Int))),(((0:Int),((0:Int),(0:Int))),((0:Int),((0:Int),(0:Int))))))) ∧
 letP (epairs (List.getD x.2.2.2 (Int.toNat s.2) (((0:Int),((0:Int),(0:Int))),(((0:Int),((0:Int),(0:Int))),((0:Int),((0:Int),(0:Int))))))) fun y =>
 (Term (etable_l2_step x) (etable_l2_pre x) (s.1,(s.2,(s.2,(y,((y.length:Int),(0:Int))))))))))))
def etable_l0_t (x : ((List I3) × ((List I2) × ((List I3) × (List I9))))) (s : ((List (I2 × (List Int))) × Int)) : Tr (((List (I2 × (List Int))) × Int) ⊕ (List (I2 × (List Int)))) true :=
 (.i10 (s.2 < (nL x.2.2.2))
 (.oI2 s.2 x.2.2.2
 (.fn epairs_S (gT x.2.2.2 s.2 zz9) fun y =>
 (LoopD.lp (etable_l2 x) (etable_l2_t x) (s.1,(s.2,(s.2,(y,((nL y),z0))))) fun r =>
 (.ret (.inl (r.1,(w1 r.2)))))))
 (.ret (.inr (s.1))))
def etable (x : ((List I3) × ((List I2) × ((List I3) × (List I9))))) : (List (I2 × (List Int))) :=
 (letV (run (etable_l0_step x) ([],(0:Int))) fun r =>
 r)
def etable_pre (x : ((List I3) × ((List I2) × ((List I3) × (List I9))))) : Prop :=
 (Term (etable_l0_step x) (etable_l0_pre x) ([],(0:Int)))
def etable_t (x : ((List I3) × ((List I2) × ((List I3) × (List I9))))) : Tr (List (I2 × (List Int))) true :=
 (LoopD.lp (etable_l0 x) (etable_l0_t x) ([],z0) fun r =>
 (.ret r))
abbrev etable_S : FnG := ⟨(.agg (Ty.prod (Ty.sl yy3) (Ty.prod (Ty.sl yy2) (Ty.prod (Ty.sl yy3) (Ty.sl yy9))))),(GPar.mk true yy2 yi),etable_pre,etable⟩
theorem etable_ok : SpecOk Tryz.prog 82 (fnSpecG etable_S) := SpecOk.trG etable_S etable_t (fn := Tryz.f82) tt_ok sp_epairs_ok mixed (by kernel_rfl) (ItsOk.nil _ _) (fun x => (LpsOk.tr tt_ok (SpecsOk.ctxI sp_epairs_ok (ItsOk.nil _ _)) mixed 0 (etable_l0 x) (etable_l0_t x) (LpsOk.tr tt_ok (SpecsOk.ctxI sp_epairs_ok (ItsOk.nil _ _)) mixed 2 (etable_l2 x) (etable_l2_t x) LpsOk.nil (by kernel_rfl) fun g s Q => (by kernel_rfl)) (by kernel_rfl) fun g s Q => (by kernel_rfl))) (fun x => (by kernel_rfl)) fun x Q => (by kernel_rfl)
def sp_etable : List (Nat × Ev.Spec) := (82,fnSpecG etable_S) :: sp_epairs
theorem sp_etable_ok : SpecsOk Tryz.prog sp_etable := SpecsOk.add (fn := Tryz.f82) (by kernel_rfl) etable_ok sp_epairs_ok
end Go.Proofs.YtkbmjhabfjgoiaaGreat

namespace Go.Proofs
open Go.Shelf
def Tryz.lays189_ren : Go.Shelf.Ren := ⟨fun | 189 => 95 | 125 => 108 | 257 => 107 | 128 => 125 | 129 => 126 | 294 => 116 | 295 => 117 | 296 => 118 | 297 => 119 | 298 => 120 | 299 => 121 | 216 => 122 | 300 => 123 | 301 => 124 | 328 => 130 | 329 => 131 | 330 => 132 | 331 => 133 | 332 => 134 | 215 => 91 | 343 => 135 | n => n,fun | 28 => 27 | 3 => 3 | 46 => 139 | 0 => 0 | 51 => 155 | 53 => 157 | 4 => 4 | 183 => 147 | 182 => 146 | 131 => 152 | 5 => 5 | 9 => 9 | 218 => 158 | 222 => 162 | 228 => 164 | 229 => 165 | n => n,fun | n => n⟩
theorem Tryz.lays189 : Go.Proofs.Lays.n189 Tryz.prog Tryz.lays189_ren := {
 mixed := by kernel_rfl
 f125 := Tryz.func108.trans (congrArg some (by kernel_rfl))
 f128 := Tryz.func125.trans (congrArg some (by kernel_rfl))
 f129 := Tryz.func126.trans (congrArg some (by kernel_rfl))
 f189 := Tryz.func95.trans (congrArg some (by kernel_rfl))
 f215 := Tryz.func91.trans (congrArg some (by kernel_rfl))
 f216 := Tryz.func122.trans (congrArg some (by kernel_rfl))
 f257 := Tryz.func107.trans (congrArg some (by kernel_rfl))
 f294 := Tryz.func116.trans (congrArg some (by kernel_rfl))
 f295 := Tryz.func117.trans (congrArg some (by kernel_rfl))
 f296 := Tryz.func118.trans (congrArg some (by kernel_rfl))
 f297 := Tryz.func119.trans (congrArg some (by kernel_rfl))
 f298 := Tryz.func120.trans (congrArg some (by kernel_rfl))
 f299 := Tryz.func121.trans (congrArg some (by kernel_rfl))
 f300 := Tryz.func123.trans (congrArg some (by kernel_rfl))
 f301 := Tryz.func124.trans (congrArg some (by kernel_rfl))
 f328 := Tryz.func130.trans (congrArg some (by kernel_rfl))
 f329 := Tryz.func131.trans (congrArg some (by kernel_rfl))
 f330 := Tryz.func132.trans (congrArg some (by kernel_rfl))
 f331 := Tryz.func133.trans (congrArg some (by kernel_rfl))
 f332 := Tryz.func134.trans (congrArg some (by kernel_rfl))
 f343 := Tryz.func135.trans (congrArg some (by kernel_rfl))
 t0 := Tryz.underlying0
 a0 := Tryz.isAgg0
 z0 := Tryz.sizeOf0
 v0 := Tryz.zeroValue0
 t3 := Tryz.underlying3
 a3 := Tryz.isAgg3
 z3 := Tryz.sizeOf3
 v3 := Tryz.zeroValue3
 t4 := Tryz.underlying4
 a4 := Tryz.isAgg4
 z4 := Tryz.sizeOf4
 v4 := Tryz.zeroValue4
 t5 := Tryz.underlying5
 a5 := Tryz.isAgg5
 z5 := Tryz.sizeOf5
 v5 := Tryz.zeroValue5
 t9 := Tryz.underlying9
 a9 := Tryz.isAgg9
 z9 := Tryz.sizeOf9
 v9 := Tryz.zeroValue9
 t28 := Tryz.underlying27
 a28 := Tryz.isAgg27
 z28 := Tryz.sizeOf27
 v28 := Tryz.zeroValue27
 t46 := Tryz.underlying139
 a46 := Tryz.isAgg139
 z46 := Tryz.sizeOf139
 v46 := Tryz.zeroValue139
 t51 := Tryz.underlying155
 a51 := Tryz.isAgg155
 z51 := Tryz.sizeOf155
 v51 := Tryz.zeroValue155
 t53 := Tryz.underlying157
 a53 := Tryz.isAgg157
 z53 := Tryz.sizeOf157
 v53 := Tryz.zeroValue157
 t131 := Tryz.underlying152
 a131 := Tryz.isAgg152
 z131 := Tryz.sizeOf152
 v131 := Tryz.zeroValue152
 t182 := Tryz.underlying146
 a182 := Tryz.isAgg146
 z182 := Tryz.sizeOf146
 v182 := Tryz.zeroValue146
 t183 := Tryz.underlying147
 a183 := Tryz.isAgg147
 z183 := Tryz.sizeOf147
 v183 := Tryz.zeroValue147
 t218 := Tryz.underlying158
 a218 := Tryz.isAgg158
 z218 := Tryz.sizeOf158
 v218 := Tryz.zeroValue158
 t222 := Tryz.underlying162
 a222 := Tryz.isAgg162
 z222 := Tryz.sizeOf162
 v222 := Tryz.zeroValue162
 t228 := Tryz.underlying164
 a228 := Tryz.isAgg164
 z228 := Tryz.sizeOf164
 v228 := Tryz.zeroValue164
 t229 := Tryz.underlying165
 a229 := Tryz.isAgg165
 z229 := Tryz.sizeOf165
 v229 := Tryz.zeroValue165 }
open Go.Sort Go.RowKit in
theorem Tryz.slices_Sort_int (blk off cap:Nat) (zs : List Int) (w : World) (hH : Holds (Value.int .i64) w blk off zs.toArray) (hblk : blk < w.heap.size) (hsz : zs.length < 4611686018427387904) :
  Calls Tryz.prog 95 #[.slice (some ⟨blk,off,none⟩) zs.length cap] w fun e w' =>
   e = .returned (.tuple #[]) ∧ ∃ n os,w' = grow (putRow (Value.int .i64) (Sort.ahead w n) blk off (zs.mergeSort fun x y => decide (x ≤ y)).toArray) os := Any.slices_Sort_int Tryz.lays189 blk off cap zs w hH hblk hsz
def Tryz.laysNm220_ren : Go.Shelf.Ren := ⟨fun | 20 => 96 | n => n,fun | 22 => 27 | 3 => 3 | 4 => 4 | 0 => 0 | n => n,fun | n => n⟩
theorem Tryz.laysNm220 : Go.Proofs.Lays2.n20 Tryz.prog Tryz.laysNm220_ren := {
 mixed := by kernel_rfl
 f20 := Tryz.func96.trans (congrArg some (by kernel_rfl))
 t0 := Tryz.underlying0
 a0 := Tryz.isAgg0
 z0 := Tryz.sizeOf0
 v0 := Tryz.zeroValue0
 t3 := Tryz.underlying3
 a3 := Tryz.isAgg3
 z3 := Tryz.sizeOf3
 v3 := Tryz.zeroValue3
 t4 := Tryz.underlying4
 a4 := Tryz.isAgg4
 z4 := Tryz.sizeOf4
 v4 := Tryz.zeroValue4
 t22 := Tryz.underlying27
 a22 := Tryz.isAgg27
 z22 := Tryz.sizeOf27
 v22 := Tryz.zeroValue27
 i3 := by kernel_rfl }
open Go.RowKit Go.Lib Go.Sort in
theorem Tryz.slices_Compact_int (blk off cap:Nat) (zs : List Int) (w : World) (hH : Holds (Value.int .i64) w blk off zs.toArray) (hsz : zs.length ≤ 9223372036854775807) (hcap : zs.length ≤ cap) :
  Calls Tryz.prog 96 #[.slice (some ⟨blk,off,none⟩) zs.length cap] w fun e w' => e = .returned (.slice (some ⟨blk,off,none⟩) (Lib.compact zs).length cap) ∧ ∃ q,w' = putRow (Value.int .i64) (Sort.ahead w q) blk off (Lib.compact zs ++ List.replicate (zs.length - (Lib.compact zs).length) 0).toArray := Any.slices_Compact_int Tryz.laysNm220 blk off cap zs w hH hsz hcap
open Go.RowKit Go.Lib Go.Sort in
theorem Tryz.slices_Compact_int_empty (a : Option Addr) (cap:Nat) (w : World) :
  Calls Tryz.prog 96 #[.slice a 0 cap] w fun e w' => e = .returned (.slice a 0 cap) ∧ w' = w := Any.slices_Compact_int_empty Tryz.laysNm220 a cap w
def Tryz.laysNm223_ren : Go.Shelf.Ren := ⟨fun | 23 => 32 | n => n,fun | 22 => 27 | 3 => 3 | 4 => 4 | 0 => 0 | n => n,fun | n => n⟩
theorem Tryz.laysNm223 : Go.Proofs.Lays2.n23 Tryz.prog Tryz.laysNm223_ren := {
 mixed := by kernel_rfl
 f23 := Tryz.func32.trans (congrArg some (by kernel_rfl))
 t0 := Tryz.underlying0
 a0 := Tryz.isAgg0
 z0 := Tryz.sizeOf0
 v0 := Tryz.zeroValue0
 t3 := Tryz.underlying3
 a3 := Tryz.isAgg3
 z3 := Tryz.sizeOf3
 v3 := Tryz.zeroValue3
 t4 := Tryz.underlying4
 a4 := Tryz.isAgg4
 z4 := Tryz.sizeOf4
 v4 := Tryz.zeroValue4
 t22 := Tryz.underlying27
 a22 := Tryz.isAgg27
 z22 := Tryz.sizeOf27
 v22 := Tryz.zeroValue27
 i3 := by kernel_rfl }
open Go.RowKit Go.Lib Go.Sort in
theorem Tryz.slices_Delete_int (blk off cap i j:Nat) (zs : List Int) (w : World) (hH : Holds (Value.int .i64) w blk off zs.toArray) (hcap : zs.length ≤ cap) (hm : cap ≤ 9223372036854775807) (hij : i ≤ j) (hj : j ≤ zs.length) :
  Calls Tryz.prog 32 #[.slice (some ⟨blk,off,none⟩) zs.length cap,.int .i64 i,.int .i64 j] w fun e w' => e = .returned (.slice (some ⟨blk,off,none⟩) (zs.length - (j - i)) cap) ∧ ∃ q,w' = putRow (Value.int .i64) (Sort.ahead w q) blk off (zs.take i ++ zs.drop j ++ List.replicate (j - i) 0).toArray := Any.slices_Delete_int Tryz.laysNm223 blk off cap i j zs w hH hcap hm hij hj
open Go.RowKit Go.Lib in
theorem Tryz.slices_Delete_int_empty (a : Option Addr) (c:Nat) (w : World) :
  Calls Tryz.prog 32 #[.slice a 0 c,.int .i64 0,.int .i64 0] w fun e w' => e = .returned (.slice a 0 c) ∧ w' = w := Any.slices_Delete_int_empty Tryz.laysNm223 a c w
namespace YtkbmjhabfjgoiaaGreat
open Go Go.Ev Go.Proofs
theorem slsort_ok : SpecOk Tryz.prog 95 sortSpec := sortSpec_ok Tryz.slices_Sort_int fun p cap w => Any.slices_Sort_int_none Tryz.lays189 p cap w
theorem slcomp_ok : SpecOk Tryz.prog 96 compSpec := compSpec_ok Tryz.slices_Compact_int Tryz.slices_Compact_int_empty
theorem sldel_ok : SpecOk Tryz.prog 32 delSpec := delSpec_ok Tryz.slices_Delete_int Tryz.slices_Delete_int_empty
end YtkbmjhabfjgoiaaGreat
end Go.Proofs
