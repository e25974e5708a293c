/- Models of the law's functions that need no reference. -/
import Derived.Test.YtpdhabfebpjihaaDg
namespace Go.Proofs.Ytpdhabfebpjihaa
open Go Go.Ev Go.Proofs
set_option linter.unusedVariables false
noncomputable def l11least (x : ((Int × Int) × ((Int × Int) × ((Int × Int) × ((Int × Int) × (Int × Int)))))) : Bool :=
 (letV (closest (x.1, x.2.2)) fun y =>
 (if ((y.2.2 != (0 : Int)) = true) then
 (letV (l11neared false) fun y_1 =>
 (if (y_1 = true) then
 (letV (small2 [x.1]) fun y_2 =>
 (if ((!y_2) = true) then
 ((y.1.1 == (0 : Int)) && ((y.1.2 == (0 : Int)) && true)) else
 (letV (mright x.2.2) fun y_3 =>
 (if ((!y_3) = true) then
 ((y.1.1 == (0 : Int)) && ((y.1.2 == (0 : Int)) && true)) else
 false)))) else
 false)) else
 (letV (l11square (x.1, x.2.2.1)) fun y_1 =>
 (letV (fcmp (y.2.1, (y_1, (1 : Int)))) fun y_2 =>
 (if (y_2 > (0 : Int)) then
 false else
 (letV (l11square (x.1, x.2.2.2.1)) fun y_3 =>
 (letV (fcmp (y.2.1, (y_3, (1 : Int)))) fun y_4 =>
 (if (y_4 > (0 : Int)) then
 false else
 (letV (l11square (x.1, x.2.2.2.2)) fun y_5 =>
 (letV (fcmp (y.2.1, (y_5, (1 : Int)))) fun y_6 =>
 (if (y_6 > (0 : Int)) then
 false else
 (letV (mIn x.2) fun y_7 =>
 (if ((y_7.2 != (0 : Int)) = true) then
 (letV (l11neared false) fun y_8 =>
 (if (y_8 = true) then
 (y_7.2 != (1 : Int)) else
 false)) else
 (if ((y_7.1 == (0 : Int)) = true) then
 (letV (l11neared false) fun y_8 =>
 (if (y_8 = true) then
 (y_7.2 != (1 : Int)) else
 false)) else
 (letV (l11neared false) fun y_8 =>
 (if (y_8 = true) then
 (letV (l11square (x.1, x.2.1)) fun y_9 =>
 (letV (fcmp (y.2.1, (y_9, (1 : Int)))) fun y_10 =>
 (decide (y_10 ≤ (0 : Int))))) else
 false))))))))))))))))
noncomputable def l11least_pre (x : ((Int × Int) × ((Int × Int) × ((Int × Int) × ((Int × Int) × (Int × Int)))))) : Prop :=
 ((closest_pre (x.1, x.2.2)) ∧
 letP (closest (x.1, x.2.2)) fun y =>
 ((((y.2.2 != (0 : Int)) = true) →
 ((l11neared_pre false) ∧
 letP (l11neared false) fun y_1 =>
 ((y_1 = true) →
 ((small2_pre [x.1]) ∧
 letP (small2 [x.1]) fun y_2 =>
 (¬ ((!y_2) = true) →
 (mright_pre x.2.2)))))) ∧
 (¬ ((y.2.2 != (0 : Int)) = true) →
 (letP (l11square (x.1, x.2.2.1)) fun y_1 =>
 ((fcmp_pre (y.2.1, (y_1, (1 : Int)))) ∧
 letP (fcmp (y.2.1, (y_1, (1 : Int)))) fun y_2 =>
 (¬ (y_2 > (0 : Int)) →
 (letP (l11square (x.1, x.2.2.2.1)) fun y_3 =>
 ((fcmp_pre (y.2.1, (y_3, (1 : Int)))) ∧
 letP (fcmp (y.2.1, (y_3, (1 : Int)))) fun y_4 =>
 (¬ (y_4 > (0 : Int)) →
 (letP (l11square (x.1, x.2.2.2.2)) fun y_5 =>
 ((fcmp_pre (y.2.1, (y_5, (1 : Int)))) ∧
 letP (fcmp (y.2.1, (y_5, (1 : Int)))) fun y_6 =>
 (¬ (y_6 > (0 : Int)) →
 ((mIn_pre x.2) ∧
 letP (mIn x.2) fun y_7 =>
 ((((y_7.2 != (0 : Int)) = true) →
 (l11neared_pre false)) ∧
 (¬ ((y_7.2 != (0 : Int)) = true) →
 ((((y_7.1 == (0 : Int)) = true) →
 (l11neared_pre false)) ∧
 (¬ ((y_7.1 == (0 : Int)) = true) →
 ((l11neared_pre false) ∧
 letP (l11neared false) fun y_8 =>
 ((y_8 = true) →
 (letP (l11square (x.1, x.2.1)) fun y_9 =>
 (fcmp_pre (y.2.1, (y_9, (1 : Int))))))))))))))))))))))))
theorem l11least_vc (x : ((Int × Int) × ((Int × Int) × ((Int × Int) × ((Int × Int) × (Int × Int)))))) (Q : Bool → Prop) : fnE ⟨tt, sp_l11neared, noX, [(0, unrolled tt sp_l11neared noX [] [] [] 0 (cI (blk 0 (bodyOf Try.f3))) 4)], [], []⟩ Try.f3 (argsE (.pair (.agg (Ty.prod (Ty.int IntKind.i64) (Ty.int IntKind.i64))) (.pair (.agg (Ty.prod (Ty.int IntKind.i64) (Ty.int IntKind.i64))) (.agg (Ty.prod (Ty.prod (Ty.int IntKind.i64) (Ty.int IntKind.i64)) (Ty.prod (Ty.prod (Ty.int IntKind.i64) (Ty.int IntKind.i64)) (Ty.prod (Ty.int IntKind.i64) (Ty.int IntKind.i64))))))) x) (heapE (.pair (.agg (Ty.prod (Ty.int IntKind.i64) (Ty.int IntKind.i64))) (.pair (.agg (Ty.prod (Ty.int IntKind.i64) (Ty.int IntKind.i64))) (.agg (Ty.prod (Ty.prod (Ty.int IntKind.i64) (Ty.int IntKind.i64)) (Ty.prod (Ty.prod (Ty.int IntKind.i64) (Ty.int IntKind.i64)) (Ty.prod (Ty.int IntKind.i64) (Ty.int IntKind.i64))))))) x) (retE (.one Ty.bool) Q) =
 ((closest_pre (x.1, x.2.2)) ∧ ∀ y : ((Int × Int) × ((Int × Int) × Int)), y = (closest (x.1, x.2.2)) →
 (cB (y.2.2 != (0 : Int))
 ((l11neared_pre false) ∧ ∀ y_1 : Bool, y_1 = (l11neared false) →
 (cB y_1
 ((small2_pre [x.1]) ∧ ∀ y_2 : Bool, y_2 = (small2 [x.1]) →
 (cB (!y_2)
 (Q ((y.1.1 == (0 : Int)) && ((y.1.2 == (0 : Int)) && true)))
 ((mright_pre x.2.2) ∧ ∀ y_3 : Bool, y_3 = (mright x.2.2) →
 (cB (!y_3)
 (Q ((y.1.1 == (0 : Int)) && ((y.1.2 == (0 : Int)) && true)))
 (Q false)))))
 (Q false)))
 ((l11square_pre (x.1, x.2.2.1)) ∧ ∀ y_1 : Int, y_1 = (l11square (x.1, x.2.2.1)) →
 ((fcmp_pre (y.2.1, (y_1, (1 : Int)))) ∧ ∀ y_2 : Int, y_2 = (fcmp (y.2.1, (y_1, (1 : Int)))) →
 (cB (decide (y_2 > (0 : Int)))
 (Q false)
 ((l11square_pre (x.1, x.2.2.2.1)) ∧ ∀ y_3 : Int, y_3 = (l11square (x.1, x.2.2.2.1)) →
 ((fcmp_pre (y.2.1, (y_3, (1 : Int)))) ∧ ∀ y_4 : Int, y_4 = (fcmp (y.2.1, (y_3, (1 : Int)))) →
 (cB (decide (y_4 > (0 : Int)))
 (Q false)
 ((l11square_pre (x.1, x.2.2.2.2)) ∧ ∀ y_5 : Int, y_5 = (l11square (x.1, x.2.2.2.2)) →
 ((fcmp_pre (y.2.1, (y_5, (1 : Int)))) ∧ ∀ y_6 : Int, y_6 = (fcmp (y.2.1, (y_5, (1 : Int)))) →
 (cB (decide (y_6 > (0 : Int)))
 (Q false)
 ((mIn_pre x.2) ∧ ∀ y_7 : (Int × Int), y_7 = (mIn x.2) →
 (cB (y_7.2 != (0 : Int))
 ((l11neared_pre false) ∧ ∀ y_8 : Bool, y_8 = (l11neared false) →
 (cB y_8
 (Q (y_7.2 != (1 : Int)))
 (Q false)))
 (cB (y_7.1 == (0 : Int))
 ((l11neared_pre false) ∧ ∀ y_8 : Bool, y_8 = (l11neared false) →
 (cB y_8
 (Q (y_7.2 != (1 : Int)))
 (Q false)))
 ((l11neared_pre false) ∧ ∀ y_8 : Bool, y_8 = (l11neared false) →
 (cB y_8
 ((l11square_pre (x.1, x.2.1)) ∧ ∀ y_9 : Int, y_9 = (l11square (x.1, x.2.1)) →
 ((fcmp_pre (y.2.1, (y_9, (1 : Int)))) ∧ ∀ y_10 : Int, y_10 = (fcmp (y.2.1, (y_9, (1 : Int)))) →
 (Q (decide (y_10 ≤ (0 : Int))))))
 (Q false))))))))))))))))) := by kernel_rfl
theorem l11least_fn (x : ((Int × Int) × ((Int × Int) × ((Int × Int) × ((Int × Int) × (Int × Int)))))) (Q : Bool → Prop) (hp : l11least_pre x) (hq : Q (l11least x)) : Vc (fnE ⟨tt, sp_l11neared, noX, [(0, unrolled tt sp_l11neared noX [] [] [] 0 (cI (blk 0 (bodyOf Try.f3))) 4)], [], []⟩ Try.f3 (argsE (.pair (.agg (Ty.prod (Ty.int IntKind.i64) (Ty.int IntKind.i64))) (.pair (.agg (Ty.prod (Ty.int IntKind.i64) (Ty.int IntKind.i64))) (.agg (Ty.prod (Ty.prod (Ty.int IntKind.i64) (Ty.int IntKind.i64)) (Ty.prod (Ty.prod (Ty.int IntKind.i64) (Ty.int IntKind.i64)) (Ty.prod (Ty.int IntKind.i64) (Ty.int IntKind.i64))))))) x) (heapE (.pair (.agg (Ty.prod (Ty.int IntKind.i64) (Ty.int IntKind.i64))) (.pair (.agg (Ty.prod (Ty.int IntKind.i64) (Ty.int IntKind.i64))) (.agg (Ty.prod (Ty.prod (Ty.int IntKind.i64) (Ty.int IntKind.i64)) (Ty.prod (Ty.prod (Ty.int IntKind.i64) (Ty.int IntKind.i64)) (Ty.prod (Ty.int IntKind.i64) (Ty.int IntKind.i64))))))) x) (retE (.one Ty.bool) Q)) := .eq (l11least_vc x Q) (have hp := Eq.mp (l11least_pre.eq_1 x) hp; have hq := Eq.mp (congrArg Q (l11least.eq_1 x)) hq;
 (And.intro hp.1 (let_k (Q := Q) hp.2 hq fun y hp hq => (cB_b (Q := Q) hq (fun c hq => have hp := (hp.1 c); (And.intro hp.1 (let_k (Q := Q) hp.2 hq fun y_1 hp hq => (cB_b (Q := Q) hq (fun c hq => have hp := (hp c); (And.intro hp.1 (let_k (Q := Q) hp.2 hq fun y_2 hp hq => (cB_b (Q := Q) hq (fun c hq => hq) (fun c hq => have hp := (hp c); (And.intro hp (let_0 (Q := Q) hq fun y_3 hq => (cB_b (Q := Q) hq (fun c hq => hq) (fun c hq => hq))))))))) (fun c hq => hq))))) (fun c hq => have hp := (hp.2 c); (And.intro trivial (let_k (Q := Q) hp hq fun y_1 hp hq => (And.intro hp.1 (let_k (Q := Q) hp.2 hq fun y_2 hp hq => (cB_d (Q := Q) hq (fun c hq => hq) (fun c hq => have hp := (hp c); (And.intro trivial (let_k (Q := Q) hp hq fun y_3 hp hq => (And.intro hp.1 (let_k (Q := Q) hp.2 hq fun y_4 hp hq => (cB_d (Q := Q) hq (fun c hq => hq) (fun c hq => have hp := (hp c); (And.intro trivial (let_k (Q := Q) hp hq fun y_5 hp hq => (And.intro hp.1 (let_k (Q := Q) hp.2 hq fun y_6 hp hq => (cB_d (Q := Q) hq (fun c hq => hq) (fun c hq => have hp := (hp c); (And.intro hp.1 (let_k (Q := Q) hp.2 hq fun y_7 hp hq => (cB_b (Q := Q) hq (fun c hq => have hp := (hp.1 c); (And.intro hp (let_0 (Q := Q) hq fun y_8 hq => (cB_b (Q := Q) hq (fun c hq => hq) (fun c hq => hq))))) (fun c hq => have hp := (hp.2 c); (cB_b (Q := Q) hq (fun c hq => have hp := (hp.1 c); (And.intro hp (let_0 (Q := Q) hq fun y_8 hq => (cB_b (Q := Q) hq (fun c hq => hq) (fun c hq => hq))))) (fun c hq => have hp := (hp.2 c); (And.intro hp.1 (let_k (Q := Q) hp.2 hq fun y_8 hp hq => (cB_b (Q := Q) hq (fun c hq => have hp := (hp c); (And.intro trivial (let_k (Q := Q) hp hq fun y_9 hp hq => (And.intro hp (let_0 (Q := Q) hq fun y_10 hq => hq))))) (fun c hq => hq)))))))))))))))))))))))))))))))))
noncomputable def l11least_S : FnS := ⟨(.pair (.agg (Ty.prod (Ty.int IntKind.i64) (Ty.int IntKind.i64))) (.pair (.agg (Ty.prod (Ty.int IntKind.i64) (Ty.int IntKind.i64))) (.agg (Ty.prod (Ty.prod (Ty.int IntKind.i64) (Ty.int IntKind.i64)) (Ty.prod (Ty.prod (Ty.int IntKind.i64) (Ty.int IntKind.i64)) (Ty.prod (Ty.int IntKind.i64) (Ty.int IntKind.i64))))))), (.one Ty.bool), l11least_pre, l11least⟩
theorem l11least_ok : SpecOk Try.prog 3 (fnSpec l11least_S) := SpecOk.fnT' (fn := Try.f3) tt_ok sp_l11neared_ok mixed (by kernel_rfl) (by kernel_rfl) (.pair (.agg (Ty.prod (Ty.int IntKind.i64) (Ty.int IntKind.i64))) (.pair (.agg (Ty.prod (Ty.int IntKind.i64) (Ty.int IntKind.i64))) (.agg (Ty.prod (Ty.prod (Ty.int IntKind.i64) (Ty.int IntKind.i64)) (Ty.prod (Ty.prod (Ty.int IntKind.i64) (Ty.int IntKind.i64)) (Ty.prod (Ty.int IntKind.i64) (Ty.int IntKind.i64))))))) (.one Ty.bool) l11least_pre l11least (by kernel_rfl) fun x hp => ⟨_, _, (ItsOk.nil _ _), (LpsOk.unroll tt_ok (SpecsOk.ctxI sp_l11neared_ok (ItsOk.nil _ _)) mixed _ LpsOk.nil (by kernel_rfl) (by kernel_rfl)), l11least_fn x (fun y => y = l11least x) hp rfl⟩
def sp_l11least : List (Nat × Ev.Spec) := (3, fnSpec l11least_S) :: sp_l11neared
theorem sp_l11least_ok : SpecsOk Try.prog sp_l11least := SpecsOk.cons (Enters.of (fn := Try.f3) (by kernel_rfl) (by kernel_rfl) (by kernel_rfl)) l11least_ok sp_l11neared_ok
end Go.Proofs.Ytpdhabfebpjihaa
