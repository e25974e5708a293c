/- Models of functions of layer 16. -/
import Derived.Test.YtfgdjlhilladhaaGreatFc
namespace Go.Proofs.YtfgdjlhilladhaaGreat
open Go Go.Ev Go.Proofs
set_option linter.unusedVariables false
noncomputable def fbox_w0l0_10_tm (x : (List I6)) (g0 : Loop) (g1 : Env) (s : (Int × (Int × I3))) : AS := ⟨[.v (.one (.yld 8)), D, D, D, D, D, D, .v (.one (.full 0)), vi (((List.length x) : Nat) : Int), vi s.2.2.2.2, D, D, D, D, D, D, D, D, D, D, D, D, D], [.row yy6 x 0, .cells [ci (0 : Int), ci (0 : Int)] 23, .cells [ci (0 : Int), ci (0 : Int)] 23, .cells [ci (0 : Int)] 41, .cells [ci s.1, ci s.2.1] 23, .cells [ci s.2.2.1, ci s.2.2.2.1] 23, .gone, .cells [.full 0] 57, .loop g0 LoopState.ready Option.none, .pin g1 9]⟩
noncomputable def fbox_w0l0_10_out (x : (List I6)) (g0 : Loop) (g1 : Env) (r : ((Int × I3) ⊕ (Int × I3))) (K : Exit → AS → Prop) : Prop := cS r (fun a0 => K .ret ⟨[D, D, D, D, D, D, D, D, D, D, D, D, D, D, D, D, D, D, D, D, D, D, D], [.row yy6 x 0, .cells [ci (0 : Int), ci (0 : Int)] 23, .cells [ci (0 : Int), ci (0 : Int)] 23, .cells [ci (5 : Int)] 41, .cells [ci a0.1, ci a0.2.1] 23, .cells [ci a0.2.2.1, ci a0.2.2.2] 23, .gone, .cells [.full 0] 57, .loop g0 LoopState.done (Option.some Code.ret), .pin g1 9]⟩) (fun b0 => K .normal ⟨[D, D, D, D, D, D, D, D, D, D, D, D, D, D, D, D, D, D, D, D, D, D, D], [.row yy6 x 0, .cells [ci (0 : Int), ci (0 : Int)] 23, .cells [ci (0 : Int), ci (0 : Int)] 23, .cells [ci (0 : Int)] 41, .cells [ci b0.1, ci b0.2.1] 23, .cells [ci b0.2.2.1, ci b0.2.2.2] 23, .gone, .cells [.full 0] 57, .loop g0 LoopState.ready Option.none, .pin g1 9]⟩)
noncomputable def fbox_w0l0_10_step (x : (List I6)) (t : Unit) (s : (Int × (Int × I3))) : (Int × (Int × I3)) ⊕ ((Int × I3) ⊕ (Int × I3)) :=
 (if (s.2.2.2.2 < (((List.length x) : Nat) : Int)) then
 (letV (small2 [(List.getD x (Int.toNat s.2.2.2.2) (((0 : Int), (0 : Int)), (((0 : Int), (0 : Int)), ((0 : Int), (0 : Int))))).1]) fun y =>
 (if ((!y) = true) then
 (Sum.inr (Sum.inl (s.1, (s.2.1, (s.2.2.1, s.2.2.2.1))))) else
 (letV (small2 [(List.getD x (Int.toNat s.2.2.2.2) (((0 : Int), (0 : Int)), (((0 : Int), (0 : Int)), ((0 : Int), (0 : Int))))).2.1]) fun y_1 =>
 (if ((!y_1) = true) then
 (Sum.inr (Sum.inl ((minI s.1 (List.getD x (Int.toNat s.2.2.2.2) (((0 : Int), (0 : Int)), (((0 : Int), (0 : Int)), ((0 : Int), (0 : Int))))).1.1), ((minI s.2.1 (List.getD x (Int.toNat s.2.2.2.2) (((0 : Int), (0 : Int)), (((0 : Int), (0 : Int)), ((0 : Int), (0 : Int))))).1.2), ((maxI s.2.2.1 (List.getD x (Int.toNat s.2.2.2.2) (((0 : Int), (0 : Int)), (((0 : Int), (0 : Int)), ((0 : Int), (0 : Int))))).1.1), (maxI s.2.2.2.1 (List.getD x (Int.toNat s.2.2.2.2) (((0 : Int), (0 : Int)), (((0 : Int), (0 : Int)), ((0 : Int), (0 : Int))))).1.2)))))) else
 (letV (small2 [(List.getD x (Int.toNat s.2.2.2.2) (((0 : Int), (0 : Int)), (((0 : Int), (0 : Int)), ((0 : Int), (0 : Int))))).2.2]) fun y_2 =>
 (if ((!y_2) = true) then
 (Sum.inr (Sum.inl ((minI (minI s.1 (List.getD x (Int.toNat s.2.2.2.2) (((0 : Int), (0 : Int)), (((0 : Int), (0 : Int)), ((0 : Int), (0 : Int))))).1.1) (List.getD x (Int.toNat s.2.2.2.2) (((0 : Int), (0 : Int)), (((0 : Int), (0 : Int)), ((0 : Int), (0 : Int))))).2.1.1), ((minI (minI s.2.1 (List.getD x (Int.toNat s.2.2.2.2) (((0 : Int), (0 : Int)), (((0 : Int), (0 : Int)), ((0 : Int), (0 : Int))))).1.2) (List.getD x (Int.toNat s.2.2.2.2) (((0 : Int), (0 : Int)), (((0 : Int), (0 : Int)), ((0 : Int), (0 : Int))))).2.1.2), ((maxI (maxI s.2.2.1 (List.getD x (Int.toNat s.2.2.2.2) (((0 : Int), (0 : Int)), (((0 : Int), (0 : Int)), ((0 : Int), (0 : Int))))).1.1) (List.getD x (Int.toNat s.2.2.2.2) (((0 : Int), (0 : Int)), (((0 : Int), (0 : Int)), ((0 : Int), (0 : Int))))).2.1.1), (maxI (maxI s.2.2.2.1 (List.getD x (Int.toNat s.2.2.2.2) (((0 : Int), (0 : Int)), (((0 : Int), (0 : Int)), ((0 : Int), (0 : Int))))).1.2) (List.getD x (Int.toNat s.2.2.2.2) (((0 : Int), (0 : Int)), (((0 : Int), (0 : Int)), ((0 : Int), (0 : Int))))).2.1.2)))))) else
 (Sum.inl ((minI (minI (minI s.1 (List.getD x (Int.toNat s.2.2.2.2) (((0 : Int), (0 : Int)), (((0 : Int), (0 : Int)), ((0 : Int), (0 : Int))))).1.1) (List.getD x (Int.toNat s.2.2.2.2) (((0 : Int), (0 : Int)), (((0 : Int), (0 : Int)), ((0 : Int), (0 : Int))))).2.1.1) (List.getD x (Int.toNat s.2.2.2.2) (((0 : Int), (0 : Int)), (((0 : Int), (0 : Int)), ((0 : Int), (0 : Int))))).2.2.1), ((minI (minI (minI s.2.1 (List.getD x (Int.toNat s.2.2.2.2) (((0 : Int), (0 : Int)), (((0 : Int), (0 : Int)), ((0 : Int), (0 : Int))))).1.2) (List.getD x (Int.toNat s.2.2.2.2) (((0 : Int), (0 : Int)), (((0 : Int), (0 : Int)), ((0 : Int), (0 : Int))))).2.1.2) (List.getD x (Int.toNat s.2.2.2.2) (((0 : Int), (0 : Int)), (((0 : Int), (0 : Int)), ((0 : Int), (0 : Int))))).2.2.2), ((maxI (maxI (maxI s.2.2.1 (List.getD x (Int.toNat s.2.2.2.2) (((0 : Int), (0 : Int)), (((0 : Int), (0 : Int)), ((0 : Int), (0 : Int))))).1.1) (List.getD x (Int.toNat s.2.2.2.2) (((0 : Int), (0 : Int)), (((0 : Int), (0 : Int)), ((0 : Int), (0 : Int))))).2.1.1) (List.getD x (Int.toNat s.2.2.2.2) (((0 : Int), (0 : Int)), (((0 : Int), (0 : Int)), ((0 : Int), (0 : Int))))).2.2.1), ((maxI (maxI (maxI s.2.2.2.1 (List.getD x (Int.toNat s.2.2.2.2) (((0 : Int), (0 : Int)), (((0 : Int), (0 : Int)), ((0 : Int), (0 : Int))))).1.2) (List.getD x (Int.toNat s.2.2.2.2) (((0 : Int), (0 : Int)), (((0 : Int), (0 : Int)), ((0 : Int), (0 : Int))))).2.1.2) (List.getD x (Int.toNat s.2.2.2.2) (((0 : Int), (0 : Int)), (((0 : Int), (0 : Int)), ((0 : Int), (0 : Int))))).2.2.2), (w64 (s.2.2.2.2 + (1 : Int)))))))))))))) else
 (Sum.inr (Sum.inr ((s.1, (s.2.1, (s.2.2.1, s.2.2.2.1)))))))
noncomputable def fbox_w0l0_10_pre (x : (List I6)) (t : Unit) (s : (Int × (Int × I3))) : Prop :=
 ((s.2.2.2.2 < (((List.length x) : Nat) : Int)) →
 ((((0 : Int) ≤ s.2.2.2.2) ∧ (s.2.2.2.2 < (((List.length x) : Nat) : Int))) ∧
 (((Int.toNat s.2.2.2.2) < (List.length x)) ∧
 (((Int.toNat s.2.2.2.2) < (List.length x)) ∧
 ((small2_pre [(List.getD x (Int.toNat s.2.2.2.2) (((0 : Int), (0 : Int)), (((0 : Int), (0 : Int)), ((0 : Int), (0 : Int))))).1]) ∧
 letP (small2 [(List.getD x (Int.toNat s.2.2.2.2) (((0 : Int), (0 : Int)), (((0 : Int), (0 : Int)), ((0 : Int), (0 : Int))))).1]) fun y =>
 (¬ ((!y) = true) →
 ((small2_pre [(List.getD x (Int.toNat s.2.2.2.2) (((0 : Int), (0 : Int)), (((0 : Int), (0 : Int)), ((0 : Int), (0 : Int))))).2.1]) ∧
 letP (small2 [(List.getD x (Int.toNat s.2.2.2.2) (((0 : Int), (0 : Int)), (((0 : Int), (0 : Int)), ((0 : Int), (0 : Int))))).2.1]) fun y_1 =>
 (¬ ((!y_1) = true) →
 (small2_pre [(List.getD x (Int.toNat s.2.2.2.2) (((0 : Int), (0 : Int)), (((0 : Int), (0 : Int)), ((0 : Int), (0 : Int))))).2.2])))))))))
noncomputable def fbox_w0l0_10_sp (x : (List I6)) (g0 : Loop) (g1 : Env) (t : Unit) : LSpec := loopSp (fbox_w0l0_10_tm x g0 g1) (fbox_w0l0_10_step x t) (fbox_w0l0_10_pre x t) (fbox_w0l0_10_out x g0 g1)
noncomputable def fbox_y186_0 (x : (List I6)) (ys : List (Nat × Ev.Spec)) : List (Nat × LSpec) := []
noncomputable def fbox_y186_1 (x : (List I6)) (ys : List (Nat × Ev.Spec)) : List (Nat × LSpec) := (2, unrolled tt sp_msquare noX (fbox_y186_0 x ys) ys ((170, itFn tt sp_msquare noX (fun ys => []) [] Tryz.f170) :: []) 2 (cI (blk 2 (bodyOf Tryz.f186))) 4) :: fbox_y186_0 x ys
noncomputable def fbox_y186_2 (x : (List I6)) (ys : List (Nat × Ev.Spec)) : List (Nat × LSpec) := (0, altL [(10, atLoop 8 fun g0 => atPin 9 fun g1 => certL ⟨tt, sp_msquare, noX, fbox_y186_1 x ys, ys, ((170, itFn tt sp_msquare noX (fun ys => []) [] Tryz.f170) :: [])⟩ (.loop (cI (blk 0 (bodyOf Tryz.f186)))) 0 fun (q : Unit × (Nat → AV)) => fbox_w0l0_10_sp x g0 g1 q.1)]) :: fbox_y186_1 x ys
noncomputable def fbox_c (x : (List I6)) : Ctx := ⟨tt, sp_msquare, noX, [], [], ((186, itFn tt sp_msquare noX (fbox_y186_2 x) ((170, itFn tt sp_msquare noX (fun ys => []) [] Tryz.f170) :: []) Tryz.f186) :: ((170, itFn tt sp_msquare noX (fun ys => []) [] Tryz.f170) :: []))⟩
theorem fbox_w0l0_10_vc (x : (List I6)) (g0 : Loop) (g1 : Env) (t : Unit) (d : Nat → AV) (s : (Int × (Int × I3))) (K : Exit → AS → Prop) (KN : AS → Prop) : codeE ⟨tt, sp_msquare, noX, (fbox_y186_1 x (ysE 8 ((d 0) :: (d 1) :: .v (.one (.ptr 1 0)) :: .v (.one (.ptr 2 0)) :: .v (.one (.ptr 3 0)) :: .v (.one (.ptr 4 0)) :: .v (.one (.ptr 5 0)) :: (d 7) :: (d 8) :: (d 9) :: (d 10) :: (d 11) :: (d 12) :: (d 13) :: (d 14) :: (d 15) :: (d 16) :: (d 17) :: (d 18) :: (d 19) :: (d 20) :: (d 21) :: (d 22) :: (d 23) :: (d 24) :: (d 25) :: (d 26) :: (d 27) :: (d 28) :: (d 29) :: (d 30) :: (d 31) :: (d 32) :: (d 33) :: (d 34) :: (d 35) :: (d 36) :: (d 37) :: (d 38) :: (d 39) :: (d 40) :: (d 41) :: (d 42) :: (d 43) :: (d 44) :: (d 45) :: (d 46) :: (d 47) :: (d 48) :: (d 49) :: (d 50) :: (d 51) :: (d 52) :: (d 53) :: []) g0 g1 [23] (fbox_c x) Tryz.f134)), (ysE 8 ((d 0) :: (d 1) :: .v (.one (.ptr 1 0)) :: .v (.one (.ptr 2 0)) :: .v (.one (.ptr 3 0)) :: .v (.one (.ptr 4 0)) :: .v (.one (.ptr 5 0)) :: (d 7) :: (d 8) :: (d 9) :: (d 10) :: (d 11) :: (d 12) :: (d 13) :: (d 14) :: (d 15) :: (d 16) :: (d 17) :: (d 18) :: (d 19) :: (d 20) :: (d 21) :: (d 22) :: (d 23) :: (d 24) :: (d 25) :: (d 26) :: (d 27) :: (d 28) :: (d 29) :: (d 30) :: (d 31) :: (d 32) :: (d 33) :: (d 34) :: (d 35) :: (d 36) :: (d 37) :: (d 38) :: (d 39) :: (d 40) :: (d 41) :: (d 42) :: (d 43) :: (d 44) :: (d 45) :: (d 46) :: (d 47) :: (d 48) :: (d 49) :: (d 50) :: (d 51) :: (d 52) :: (d 53) :: []) g0 g1 [23] (fbox_c x) Tryz.f134), ((170, itFn tt sp_msquare noX (fun ys => []) [] Tryz.f170) :: [])⟩ (cI (blk 0 (bodyOf Tryz.f186))) (fbox_w0l0_10_tm x g0 g1 s) (KB 0 K KN) =
 (cB (decide (s.2.2.2.2 < (((List.length x) : Nat) : Int)))
 (ob ((decide ((0 : Int) ≤ s.2.2.2.2)) && (decide (s.2.2.2.2 < (((List.length x) : Nat) : Int))))
 (ob (decide ((Int.toNat s.2.2.2.2) < (List.length x)))
 (ob (decide ((Int.toNat s.2.2.2.2) < (List.length x)))
 ((noX = noX) ∧
 ((g1 = g1) ∧
 ((9 = 9) ∧
 ((g0 = g0) ∧
 (∀ ρ1 : Env,
 ((ρ1 = ρ1) ∧
 ((12 = 12) ∧
 ((g0 = g0) ∧
 ((small2_pre [(List.getD x (Int.toNat s.2.2.2.2) zz6).1]) ∧ ∀ y : Bool, y = (small2 [(List.getD x (Int.toNat s.2.2.2.2) zz6).1]) →
 (cB (!y)
 ((g0 = g0) ∧
 ((ρ1 = ρ1) ∧
 ((12 = 12) ∧
 (KB 0 K KN .ret ⟨[.v (.one (.yld 8)), D, D, D, .v (.one (.ptr 10 0)), D, .v (.one (.ptr 11 0)), .v (.one (.full 0)), vi (((List.length x) : Nat) : Int), vi s.2.2.2.2, vb (decide (s.2.2.2.2 < (((List.length x) : Nat) : Int))), .v (.one (.eptr 0 (Int.toNat s.2.2.2.2) 0)), .v (.agg [ci (List.getD x (Int.toNat s.2.2.2.2) zz6).1.1, ci (List.getD x (Int.toNat s.2.2.2.2) zz6).1.2, ci (List.getD x (Int.toNat s.2.2.2.2) zz6).2.1.1, ci (List.getD x (Int.toNat s.2.2.2.2) zz6).2.1.2, ci (List.getD x (Int.toNat s.2.2.2.2) zz6).2.2.1, ci (List.getD x (Int.toNat s.2.2.2.2) zz6).2.2.2]), .v (.agg [ci (List.getD x (Int.toNat s.2.2.2.2) zz6).1.1, ci (List.getD x (Int.toNat s.2.2.2.2) zz6).1.2, ci (List.getD x (Int.toNat s.2.2.2.2) zz6).2.1.1, ci (List.getD x (Int.toNat s.2.2.2.2) zz6).2.1.2, ci (List.getD x (Int.toNat s.2.2.2.2) zz6).2.2.1, ci (List.getD x (Int.toNat s.2.2.2.2) zz6).2.2.2]), vi (0 : Int), vb true, .v (.agg [ci (List.getD x (Int.toNat s.2.2.2.2) zz6).1.1, ci (List.getD x (Int.toNat s.2.2.2.2) zz6).1.2]), .v (.one (.yld 8)), .v (.agg [ci (List.getD x (Int.toNat s.2.2.2.2) zz6).1.1, ci (List.getD x (Int.toNat s.2.2.2.2) zz6).1.2]), vb false, vb true, D, D], [.row yy6 x 0, .cells [ci (0 : Int), ci (0 : Int)] 23, .cells [ci (0 : Int), ci (0 : Int)] 23, .cells [ci (5 : Int)] 41, .cells [ci s.1, ci s.2.1] 23, .cells [ci s.2.2.1, ci s.2.2.2.1] 23, .gone, .cells [.full 0] 57, .loop g0 LoopState.done (Option.some Code.ret), .pin g1 9, .cells [ci (List.getD x (Int.toNat s.2.2.2.2) zz6).1.1, ci (List.getD x (Int.toNat s.2.2.2.2) zz6).1.2, ci (List.getD x (Int.toNat s.2.2.2.2) zz6).2.1.1, ci (List.getD x (Int.toNat s.2.2.2.2) zz6).2.1.2, ci (List.getD x (Int.toNat s.2.2.2.2) zz6).2.2.1, ci (List.getD x (Int.toNat s.2.2.2.2) zz6).2.2.2] 24, .cells [ci (List.getD x (Int.toNat s.2.2.2.2) zz6).1.1, ci (List.getD x (Int.toNat s.2.2.2.2) zz6).1.2] 23, .gone, .cells [ci (List.getD x (Int.toNat s.2.2.2.2) zz6).1.1, ci (List.getD x (Int.toNat s.2.2.2.2) zz6).1.2] 23, .cells [ci (List.getD x (Int.toNat s.2.2.2.2) zz6).1.1, ci (List.getD x (Int.toNat s.2.2.2.2) zz6).1.2] 23]⟩))))
 ((g0 = g0) ∧
 ((ρ1 = ρ1) ∧
 ((12 = 12) ∧
 ((noX = noX) ∧
 ((g1 = g1) ∧
 ((9 = 9) ∧
 ((g0 = g0) ∧
 (∀ ρ1_1 : Env,
 ((ρ1_1 = ρ1_1) ∧
 ((16 = 16) ∧
 ((g0 = g0) ∧
 ((small2_pre [(List.getD x (Int.toNat s.2.2.2.2) zz6).2.1]) ∧ ∀ y_1 : Bool, y_1 = (small2 [(List.getD x (Int.toNat s.2.2.2.2) zz6).2.1]) →
 (cB (!y_1)
 ((g0 = g0) ∧
 ((ρ1_1 = ρ1_1) ∧
 ((16 = 16) ∧
 (KB 0 K KN .ret ⟨[.v (.one (.yld 8)), D, D, D, .v (.one (.ptr 10 0)), D, .v (.one (.ptr 15 0)), .v (.one (.full 0)), vi (((List.length x) : Nat) : Int), vi s.2.2.2.2, vb (decide (s.2.2.2.2 < (((List.length x) : Nat) : Int))), .v (.one (.eptr 0 (Int.toNat s.2.2.2.2) 0)), .v (.agg [ci (List.getD x (Int.toNat s.2.2.2.2) zz6).1.1, ci (List.getD x (Int.toNat s.2.2.2.2) zz6).1.2, ci (List.getD x (Int.toNat s.2.2.2.2) zz6).2.1.1, ci (List.getD x (Int.toNat s.2.2.2.2) zz6).2.1.2, ci (List.getD x (Int.toNat s.2.2.2.2) zz6).2.2.1, ci (List.getD x (Int.toNat s.2.2.2.2) zz6).2.2.2]), .v (.agg [ci (List.getD x (Int.toNat s.2.2.2.2) zz6).1.1, ci (List.getD x (Int.toNat s.2.2.2.2) zz6).1.2, ci (List.getD x (Int.toNat s.2.2.2.2) zz6).2.1.1, ci (List.getD x (Int.toNat s.2.2.2.2) zz6).2.1.2, ci (List.getD x (Int.toNat s.2.2.2.2) zz6).2.2.1, ci (List.getD x (Int.toNat s.2.2.2.2) zz6).2.2.2]), vi (1 : Int), vb true, .v (.agg [ci (List.getD x (Int.toNat s.2.2.2.2) zz6).2.1.1, ci (List.getD x (Int.toNat s.2.2.2.2) zz6).2.1.2]), .v (.one (.yld 8)), .v (.agg [ci (List.getD x (Int.toNat s.2.2.2.2) zz6).2.1.1, ci (List.getD x (Int.toNat s.2.2.2.2) zz6).2.1.2]), vb false, vb true, vi (1 : Int), D], [.row yy6 x 0, .cells [ci (0 : Int), ci (0 : Int)] 23, .cells [ci (0 : Int), ci (0 : Int)] 23, .cells [ci (5 : Int)] 41, .cells [ci (minI s.1 (List.getD x (Int.toNat s.2.2.2.2) zz6).1.1), ci (minI s.2.1 (List.getD x (Int.toNat s.2.2.2.2) zz6).1.2)] 23, .cells [ci (maxI s.2.2.1 (List.getD x (Int.toNat s.2.2.2.2) zz6).1.1), ci (maxI s.2.2.2.1 (List.getD x (Int.toNat s.2.2.2.2) zz6).1.2)] 23, .gone, .cells [.full 0] 57, .loop g0 LoopState.done (Option.some Code.ret), .pin g1 9, .cells [ci (List.getD x (Int.toNat s.2.2.2.2) zz6).1.1, ci (List.getD x (Int.toNat s.2.2.2.2) zz6).1.2, ci (List.getD x (Int.toNat s.2.2.2.2) zz6).2.1.1, ci (List.getD x (Int.toNat s.2.2.2.2) zz6).2.1.2, ci (List.getD x (Int.toNat s.2.2.2.2) zz6).2.2.1, ci (List.getD x (Int.toNat s.2.2.2.2) zz6).2.2.2] 24, .cells [ci (List.getD x (Int.toNat s.2.2.2.2) zz6).1.1, ci (List.getD x (Int.toNat s.2.2.2.2) zz6).1.2] 23, .gone, .cells [ci (List.getD x (Int.toNat s.2.2.2.2) zz6).1.1, ci (List.getD x (Int.toNat s.2.2.2.2) zz6).1.2] 23, .cells [ci (List.getD x (Int.toNat s.2.2.2.2) zz6).1.1, ci (List.getD x (Int.toNat s.2.2.2.2) zz6).1.2] 23, .cells [ci (List.getD x (Int.toNat s.2.2.2.2) zz6).2.1.1, ci (List.getD x (Int.toNat s.2.2.2.2) zz6).2.1.2] 23, .gone, .cells [ci (List.getD x (Int.toNat s.2.2.2.2) zz6).2.1.1, ci (List.getD x (Int.toNat s.2.2.2.2) zz6).2.1.2] 23, .cells [ci (List.getD x (Int.toNat s.2.2.2.2) zz6).2.1.1, ci (List.getD x (Int.toNat s.2.2.2.2) zz6).2.1.2] 23]⟩))))
 ((g0 = g0) ∧
 ((ρ1_1 = ρ1_1) ∧
 ((16 = 16) ∧
 ((noX = noX) ∧
 ((g1 = g1) ∧
 ((9 = 9) ∧
 ((g0 = g0) ∧
 (∀ ρ1_2 : Env,
 ((ρ1_2 = ρ1_2) ∧
 ((20 = 20) ∧
 ((g0 = g0) ∧
 ((small2_pre [(List.getD x (Int.toNat s.2.2.2.2) zz6).2.2]) ∧ ∀ y_2 : Bool, y_2 = (small2 [(List.getD x (Int.toNat s.2.2.2.2) zz6).2.2]) →
 (cB (!y_2)
 ((g0 = g0) ∧
 ((ρ1_2 = ρ1_2) ∧
 ((20 = 20) ∧
 (KB 0 K KN .ret ⟨[.v (.one (.yld 8)), D, D, D, .v (.one (.ptr 10 0)), D, .v (.one (.ptr 19 0)), .v (.one (.full 0)), vi (((List.length x) : Nat) : Int), vi s.2.2.2.2, vb (decide (s.2.2.2.2 < (((List.length x) : Nat) : Int))), .v (.one (.eptr 0 (Int.toNat s.2.2.2.2) 0)), .v (.agg [ci (List.getD x (Int.toNat s.2.2.2.2) zz6).1.1, ci (List.getD x (Int.toNat s.2.2.2.2) zz6).1.2, ci (List.getD x (Int.toNat s.2.2.2.2) zz6).2.1.1, ci (List.getD x (Int.toNat s.2.2.2.2) zz6).2.1.2, ci (List.getD x (Int.toNat s.2.2.2.2) zz6).2.2.1, ci (List.getD x (Int.toNat s.2.2.2.2) zz6).2.2.2]), .v (.agg [ci (List.getD x (Int.toNat s.2.2.2.2) zz6).1.1, ci (List.getD x (Int.toNat s.2.2.2.2) zz6).1.2, ci (List.getD x (Int.toNat s.2.2.2.2) zz6).2.1.1, ci (List.getD x (Int.toNat s.2.2.2.2) zz6).2.1.2, ci (List.getD x (Int.toNat s.2.2.2.2) zz6).2.2.1, ci (List.getD x (Int.toNat s.2.2.2.2) zz6).2.2.2]), vi (2 : Int), vb true, .v (.agg [ci (List.getD x (Int.toNat s.2.2.2.2) zz6).2.2.1, ci (List.getD x (Int.toNat s.2.2.2.2) zz6).2.2.2]), .v (.one (.yld 8)), .v (.agg [ci (List.getD x (Int.toNat s.2.2.2.2) zz6).2.2.1, ci (List.getD x (Int.toNat s.2.2.2.2) zz6).2.2.2]), vb false, vb true, vi (2 : Int), D], [.row yy6 x 0, .cells [ci (0 : Int), ci (0 : Int)] 23, .cells [ci (0 : Int), ci (0 : Int)] 23, .cells [ci (5 : Int)] 41, .cells [ci (minI (minI s.1 (List.getD x (Int.toNat s.2.2.2.2) zz6).1.1) (List.getD x (Int.toNat s.2.2.2.2) zz6).2.1.1), ci (minI (minI s.2.1 (List.getD x (Int.toNat s.2.2.2.2) zz6).1.2) (List.getD x (Int.toNat s.2.2.2.2) zz6).2.1.2)] 23, .cells [ci (maxI (maxI s.2.2.1 (List.getD x (Int.toNat s.2.2.2.2) zz6).1.1) (List.getD x (Int.toNat s.2.2.2.2) zz6).2.1.1), ci (maxI (maxI s.2.2.2.1 (List.getD x (Int.toNat s.2.2.2.2) zz6).1.2) (List.getD x (Int.toNat s.2.2.2.2) zz6).2.1.2)] 23, .gone, .cells [.full 0] 57, .loop g0 LoopState.done (Option.some Code.ret), .pin g1 9, .cells [ci (List.getD x (Int.toNat s.2.2.2.2) zz6).1.1, ci (List.getD x (Int.toNat s.2.2.2.2) zz6).1.2, ci (List.getD x (Int.toNat s.2.2.2.2) zz6).2.1.1, ci (List.getD x (Int.toNat s.2.2.2.2) zz6).2.1.2, ci (List.getD x (Int.toNat s.2.2.2.2) zz6).2.2.1, ci (List.getD x (Int.toNat s.2.2.2.2) zz6).2.2.2] 24, .cells [ci (List.getD x (Int.toNat s.2.2.2.2) zz6).1.1, ci (List.getD x (Int.toNat s.2.2.2.2) zz6).1.2] 23, .gone, .cells [ci (List.getD x (Int.toNat s.2.2.2.2) zz6).1.1, ci (List.getD x (Int.toNat s.2.2.2.2) zz6).1.2] 23, .cells [ci (List.getD x (Int.toNat s.2.2.2.2) zz6).1.1, ci (List.getD x (Int.toNat s.2.2.2.2) zz6).1.2] 23, .cells [ci (List.getD x (Int.toNat s.2.2.2.2) zz6).2.1.1, ci (List.getD x (Int.toNat s.2.2.2.2) zz6).2.1.2] 23, .gone, .cells [ci (List.getD x (Int.toNat s.2.2.2.2) zz6).2.1.1, ci (List.getD x (Int.toNat s.2.2.2.2) zz6).2.1.2] 23, .cells [ci (List.getD x (Int.toNat s.2.2.2.2) zz6).2.1.1, ci (List.getD x (Int.toNat s.2.2.2.2) zz6).2.1.2] 23, .cells [ci (List.getD x (Int.toNat s.2.2.2.2) zz6).2.2.1, ci (List.getD x (Int.toNat s.2.2.2.2) zz6).2.2.2] 23, .gone, .cells [ci (List.getD x (Int.toNat s.2.2.2.2) zz6).2.2.1, ci (List.getD x (Int.toNat s.2.2.2.2) zz6).2.2.2] 23, .cells [ci (List.getD x (Int.toNat s.2.2.2.2) zz6).2.2.1, ci (List.getD x (Int.toNat s.2.2.2.2) zz6).2.2.2] 23]⟩))))
 ((g0 = g0) ∧
 ((ρ1_2 = ρ1_2) ∧
 ((20 = 20) ∧
 (KB 0 K KN .normal ⟨[.v (.one (.yld 8)), D, D, D, .v (.one (.ptr 10 0)), D, .v (.one (.ptr 19 0)), .v (.one (.full 0)), vi (((List.length x) : Nat) : Int), vi (w64 (s.2.2.2.2 + (1 : Int))), vb (decide (s.2.2.2.2 < (((List.length x) : Nat) : Int))), .v (.one (.eptr 0 (Int.toNat s.2.2.2.2) 0)), .v (.agg [ci (List.getD x (Int.toNat s.2.2.2.2) zz6).1.1, ci (List.getD x (Int.toNat s.2.2.2.2) zz6).1.2, ci (List.getD x (Int.toNat s.2.2.2.2) zz6).2.1.1, ci (List.getD x (Int.toNat s.2.2.2.2) zz6).2.1.2, ci (List.getD x (Int.toNat s.2.2.2.2) zz6).2.2.1, ci (List.getD x (Int.toNat s.2.2.2.2) zz6).2.2.2]), .v (.agg [ci (List.getD x (Int.toNat s.2.2.2.2) zz6).1.1, ci (List.getD x (Int.toNat s.2.2.2.2) zz6).1.2, ci (List.getD x (Int.toNat s.2.2.2.2) zz6).2.1.1, ci (List.getD x (Int.toNat s.2.2.2.2) zz6).2.1.2, ci (List.getD x (Int.toNat s.2.2.2.2) zz6).2.2.1, ci (List.getD x (Int.toNat s.2.2.2.2) zz6).2.2.2]), vi (3 : Int), vb false, .v (.agg [ci (List.getD x (Int.toNat s.2.2.2.2) zz6).2.2.1, ci (List.getD x (Int.toNat s.2.2.2.2) zz6).2.2.2]), .v (.one (.yld 8)), .v (.agg [ci (List.getD x (Int.toNat s.2.2.2.2) zz6).2.2.1, ci (List.getD x (Int.toNat s.2.2.2.2) zz6).2.2.2]), vb true, vb false, vi (3 : Int), vi (w64 (s.2.2.2.2 + (1 : Int)))], [.row yy6 x 0, .cells [ci (0 : Int), ci (0 : Int)] 23, .cells [ci (0 : Int), ci (0 : Int)] 23, .cells [ci (0 : Int)] 41, .cells [ci (minI (minI (minI s.1 (List.getD x (Int.toNat s.2.2.2.2) zz6).1.1) (List.getD x (Int.toNat s.2.2.2.2) zz6).2.1.1) (List.getD x (Int.toNat s.2.2.2.2) zz6).2.2.1), ci (minI (minI (minI s.2.1 (List.getD x (Int.toNat s.2.2.2.2) zz6).1.2) (List.getD x (Int.toNat s.2.2.2.2) zz6).2.1.2) (List.getD x (Int.toNat s.2.2.2.2) zz6).2.2.2)] 23, .cells [ci (maxI (maxI (maxI s.2.2.1 (List.getD x (Int.toNat s.2.2.2.2) zz6).1.1) (List.getD x (Int.toNat s.2.2.2.2) zz6).2.1.1) (List.getD x (Int.toNat s.2.2.2.2) zz6).2.2.1), ci (maxI (maxI (maxI s.2.2.2.1 (List.getD x (Int.toNat s.2.2.2.2) zz6).1.2) (List.getD x (Int.toNat s.2.2.2.2) zz6).2.1.2) (List.getD x (Int.toNat s.2.2.2.2) zz6).2.2.2)] 23, .gone, .cells [.full 0] 57, .loop g0 LoopState.ready Option.none, .pin g1 9, .cells [ci (List.getD x (Int.toNat s.2.2.2.2) zz6).1.1, ci (List.getD x (Int.toNat s.2.2.2.2) zz6).1.2, ci (List.getD x (Int.toNat s.2.2.2.2) zz6).2.1.1, ci (List.getD x (Int.toNat s.2.2.2.2) zz6).2.1.2, ci (List.getD x (Int.toNat s.2.2.2.2) zz6).2.2.1, ci (List.getD x (Int.toNat s.2.2.2.2) zz6).2.2.2] 24, .cells [ci (List.getD x (Int.toNat s.2.2.2.2) zz6).1.1, ci (List.getD x (Int.toNat s.2.2.2.2) zz6).1.2] 23, .gone, .cells [ci (List.getD x (Int.toNat s.2.2.2.2) zz6).1.1, ci (List.getD x (Int.toNat s.2.2.2.2) zz6).1.2] 23, .cells [ci (List.getD x (Int.toNat s.2.2.2.2) zz6).1.1, ci (List.getD x (Int.toNat s.2.2.2.2) zz6).1.2] 23, .cells [ci (List.getD x (Int.toNat s.2.2.2.2) zz6).2.1.1, ci (List.getD x (Int.toNat s.2.2.2.2) zz6).2.1.2] 23, .gone, .cells [ci (List.getD x (Int.toNat s.2.2.2.2) zz6).2.1.1, ci (List.getD x (Int.toNat s.2.2.2.2) zz6).2.1.2] 23, .cells [ci (List.getD x (Int.toNat s.2.2.2.2) zz6).2.1.1, ci (List.getD x (Int.toNat s.2.2.2.2) zz6).2.1.2] 23, .cells [ci (List.getD x (Int.toNat s.2.2.2.2) zz6).2.2.1, ci (List.getD x (Int.toNat s.2.2.2.2) zz6).2.2.2] 23, .gone, .cells [ci (List.getD x (Int.toNat s.2.2.2.2) zz6).2.2.1, ci (List.getD x (Int.toNat s.2.2.2.2) zz6).2.2.2] 23, .cells [ci (List.getD x (Int.toNat s.2.2.2.2) zz6).2.2.1, ci (List.getD x (Int.toNat s.2.2.2.2) zz6).2.2.2] 23]⟩)))))))))))))))))))))))))))))))))))))))))))
 (KB 0 K KN (.exit 0) ⟨[.v (.one (.yld 8)), D, D, D, D, D, D, .v (.one (.full 0)), vi (((List.length x) : Nat) : Int), vi s.2.2.2.2, vb (decide (s.2.2.2.2 < (((List.length x) : Nat) : Int))), D, D, D, D, D, D, D, D, D, D, D, D], [.row yy6 x 0, .cells [ci (0 : Int), ci (0 : Int)] 23, .cells [ci (0 : Int), ci (0 : Int)] 23, .cells [ci (0 : Int)] 41, .cells [ci s.1, ci s.2.1] 23, .cells [ci s.2.2.1, ci s.2.2.2.1] 23, .gone, .cells [.full 0] 57, .loop g0 LoopState.ready Option.none, .pin g1 9]⟩)) := by kernel_rfl
theorem fbox_w0l0_10_ok (x : (List I6)) (g0 : Loop) (g1 : Env) (t : Unit) (d : Nat → AV) : CertOk ⟨tt, sp_msquare, noX, (fbox_y186_1 x (ysE 8 ((d 0) :: (d 1) :: .v (.one (.ptr 1 0)) :: .v (.one (.ptr 2 0)) :: .v (.one (.ptr 3 0)) :: .v (.one (.ptr 4 0)) :: .v (.one (.ptr 5 0)) :: (d 7) :: (d 8) :: (d 9) :: (d 10) :: (d 11) :: (d 12) :: (d 13) :: (d 14) :: (d 15) :: (d 16) :: (d 17) :: (d 18) :: (d 19) :: (d 20) :: (d 21) :: (d 22) :: (d 23) :: (d 24) :: (d 25) :: (d 26) :: (d 27) :: (d 28) :: (d 29) :: (d 30) :: (d 31) :: (d 32) :: (d 33) :: (d 34) :: (d 35) :: (d 36) :: (d 37) :: (d 38) :: (d 39) :: (d 40) :: (d 41) :: (d 42) :: (d 43) :: (d 44) :: (d 45) :: (d 46) :: (d 47) :: (d 48) :: (d 49) :: (d 50) :: (d 51) :: (d 52) :: (d 53) :: []) g0 g1 [23] (fbox_c x) Tryz.f134)), (ysE 8 ((d 0) :: (d 1) :: .v (.one (.ptr 1 0)) :: .v (.one (.ptr 2 0)) :: .v (.one (.ptr 3 0)) :: .v (.one (.ptr 4 0)) :: .v (.one (.ptr 5 0)) :: (d 7) :: (d 8) :: (d 9) :: (d 10) :: (d 11) :: (d 12) :: (d 13) :: (d 14) :: (d 15) :: (d 16) :: (d 17) :: (d 18) :: (d 19) :: (d 20) :: (d 21) :: (d 22) :: (d 23) :: (d 24) :: (d 25) :: (d 26) :: (d 27) :: (d 28) :: (d 29) :: (d 30) :: (d 31) :: (d 32) :: (d 33) :: (d 34) :: (d 35) :: (d 36) :: (d 37) :: (d 38) :: (d 39) :: (d 40) :: (d 41) :: (d 42) :: (d 43) :: (d 44) :: (d 45) :: (d 46) :: (d 47) :: (d 48) :: (d 49) :: (d 50) :: (d 51) :: (d 52) :: (d 53) :: []) g0 g1 [23] (fbox_c x) Tryz.f134), ((170, itFn tt sp_msquare noX (fun ys => []) [] Tryz.f170) :: [])⟩ (.loop (cI (blk 0 (bodyOf Tryz.f186)))) 0 (fbox_w0l0_10_sp x g0 g1 t) := LOk.certOk fun st K hk => loopSp_okV (fun s K KN hp hq => .eq (fbox_w0l0_10_vc x g0 g1 t d s K KN) (have hp := Eq.mp (fbox_w0l0_10_pre.eq_1 x t s) hp; have hq := Eq.mp (congrArg (stepQ (fbox_w0l0_10_tm x g0 g1) (fbox_w0l0_10_out x g0 g1) K KN) (fbox_w0l0_10_step.eq_1 x t s)) hq;
 (cB_d (Q := (stepQ (fbox_w0l0_10_tm x g0 g1) (fbox_w0l0_10_out x g0 g1) K KN)) hq (fun c hq => have hp := (hp c); (ob_k (and_t (decide_eq_true hp.1.1) (decide_eq_true hp.1.2)) (have hp := hp.2; (ob_k (decide_eq_true hp.1) (have hp := hp.2; (ob_k (decide_eq_true hp.1) (have hp := hp.2; (And.intro rfl (And.intro rfl (And.intro rfl (And.intro rfl (fun ρ1 => (And.intro rfl (And.intro rfl (And.intro rfl (And.intro hp.1 (let_k (Q := (stepQ (fbox_w0l0_10_tm x g0 g1) (fbox_w0l0_10_out x g0 g1) K KN)) hp.2 hq fun y hp hq => (cB_b (Q := (stepQ (fbox_w0l0_10_tm x g0 g1) (fbox_w0l0_10_out x g0 g1) K KN)) hq (fun c hq => (And.intro rfl (And.intro rfl (And.intro rfl (Exists.intro ⟨[D, D, D, D, D, D, D, D, D, D, D, D, D, D, D, D, D, D, D, D, D, D, D], [.row yy6 x 0, .cells [ci (0 : Int), ci (0 : Int)] 23, .cells [ci (0 : Int), ci (0 : Int)] 23, .cells [ci (5 : Int)] 41, .cells [ci s.1, ci s.2.1] 23, .cells [ci s.2.2.1, ci s.2.2.2.1] 23, .gone, .cells [.full 0] 57, .loop g0 LoopState.done (Option.some Code.ret), .pin g1 9]⟩ (And.intro (ren_ok (π := [.same 0, .same 1, .same 2, .same 3, .same 4, .same 5, .same 6, .same 7, .same 8, .same 9]) trivial (And.intro (ren_same rfl rfl) (And.intro (ren_same rfl rfl) (And.intro (ren_same rfl rfl) (And.intro (ren_same rfl rfl) (And.intro (ren_same rfl rfl) (And.intro (ren_same rfl rfl) (And.intro (ren_same rfl rfl) (And.intro (ren_same rfl rfl) (And.intro (ren_same rfl rfl) trivial))))))))) rfl) hq)))))) (fun c hq => have hp := (hp c); (And.intro rfl (And.intro rfl (And.intro rfl (And.intro rfl (And.intro rfl (And.intro rfl (And.intro rfl (fun ρ1_1 => (And.intro rfl (And.intro rfl (And.intro rfl (And.intro hp.1 (let_k (Q := (stepQ (fbox_w0l0_10_tm x g0 g1) (fbox_w0l0_10_out x g0 g1) K KN)) hp.2 hq fun y_1 hp hq => (cB_b (Q := (stepQ (fbox_w0l0_10_tm x g0 g1) (fbox_w0l0_10_out x g0 g1) K KN)) hq (fun c hq => (And.intro rfl (And.intro rfl (And.intro rfl (Exists.intro ⟨[D, D, D, D, D, D, D, D, D, D, D, D, D, D, D, D, D, D, D, D, D, D, D], [.row yy6 x 0, .cells [ci (0 : Int), ci (0 : Int)] 23, .cells [ci (0 : Int), ci (0 : Int)] 23, .cells [ci (5 : Int)] 41, .cells [ci (minI s.1 (List.getD x (Int.toNat s.2.2.2.2) (((0 : Int), (0 : Int)), (((0 : Int), (0 : Int)), ((0 : Int), (0 : Int))))).1.1), ci (minI s.2.1 (List.getD x (Int.toNat s.2.2.2.2) (((0 : Int), (0 : Int)), (((0 : Int), (0 : Int)), ((0 : Int), (0 : Int))))).1.2)] 23, .cells [ci (maxI s.2.2.1 (List.getD x (Int.toNat s.2.2.2.2) (((0 : Int), (0 : Int)), (((0 : Int), (0 : Int)), ((0 : Int), (0 : Int))))).1.1), ci (maxI s.2.2.2.1 (List.getD x (Int.toNat s.2.2.2.2) (((0 : Int), (0 : Int)), (((0 : Int), (0 : Int)), ((0 : Int), (0 : Int))))).1.2)] 23, .gone, .cells [.full 0] 57, .loop g0 LoopState.done (Option.some Code.ret), .pin g1 9]⟩ (And.intro (ren_ok (π := [.same 0, .same 1, .same 2, .same 3, .same 4, .same 5, .same 6, .same 7, .same 8, .same 9]) trivial (And.intro (ren_same rfl rfl) (And.intro (ren_same rfl rfl) (And.intro (ren_same rfl rfl) (And.intro (ren_same rfl rfl) (And.intro (ren_same rfl rfl) (And.intro (ren_same rfl rfl) (And.intro (ren_same rfl rfl) (And.intro (ren_same rfl rfl) (And.intro (ren_same rfl rfl) trivial))))))))) rfl) hq)))))) (fun c hq => have hp := (hp c); (And.intro rfl (And.intro rfl (And.intro rfl (And.intro rfl (And.intro rfl (And.intro rfl (And.intro rfl (fun ρ1_2 => (And.intro rfl (And.intro rfl (And.intro rfl (And.intro hp (let_0 (Q := (stepQ (fbox_w0l0_10_tm x g0 g1) (fbox_w0l0_10_out x g0 g1) K KN)) hq fun y_2 hq => (cB_b (Q := (stepQ (fbox_w0l0_10_tm x g0 g1) (fbox_w0l0_10_out x g0 g1) K KN)) hq (fun c hq => (And.intro rfl (And.intro rfl (And.intro rfl (Exists.intro ⟨[D, D, D, D, D, D, D, D, D, D, D, D, D, D, D, D, D, D, D, D, D, D, D], [.row yy6 x 0, .cells [ci (0 : Int), ci (0 : Int)] 23, .cells [ci (0 : Int), ci (0 : Int)] 23, .cells [ci (5 : Int)] 41, .cells [ci (minI (minI s.1 (List.getD x (Int.toNat s.2.2.2.2) (((0 : Int), (0 : Int)), (((0 : Int), (0 : Int)), ((0 : Int), (0 : Int))))).1.1) (List.getD x (Int.toNat s.2.2.2.2) (((0 : Int), (0 : Int)), (((0 : Int), (0 : Int)), ((0 : Int), (0 : Int))))).2.1.1), ci (minI (minI s.2.1 (List.getD x (Int.toNat s.2.2.2.2) (((0 : Int), (0 : Int)), (((0 : Int), (0 : Int)), ((0 : Int), (0 : Int))))).1.2) (List.getD x (Int.toNat s.2.2.2.2) (((0 : Int), (0 : Int)), (((0 : Int), (0 : Int)), ((0 : Int), (0 : Int))))).2.1.2)] 23, .cells [ci (maxI (maxI s.2.2.1 (List.getD x (Int.toNat s.2.2.2.2) (((0 : Int), (0 : Int)), (((0 : Int), (0 : Int)), ((0 : Int), (0 : Int))))).1.1) (List.getD x (Int.toNat s.2.2.2.2) (((0 : Int), (0 : Int)), (((0 : Int), (0 : Int)), ((0 : Int), (0 : Int))))).2.1.1), ci (maxI (maxI s.2.2.2.1 (List.getD x (Int.toNat s.2.2.2.2) (((0 : Int), (0 : Int)), (((0 : Int), (0 : Int)), ((0 : Int), (0 : Int))))).1.2) (List.getD x (Int.toNat s.2.2.2.2) (((0 : Int), (0 : Int)), (((0 : Int), (0 : Int)), ((0 : Int), (0 : Int))))).2.1.2)] 23, .gone, .cells [.full 0] 57, .loop g0 LoopState.done (Option.some Code.ret), .pin g1 9]⟩ (And.intro (ren_ok (π := [.same 0, .same 1, .same 2, .same 3, .same 4, .same 5, .same 6, .same 7, .same 8, .same 9]) trivial (And.intro (ren_same rfl rfl) (And.intro (ren_same rfl rfl) (And.intro (ren_same rfl rfl) (And.intro (ren_same rfl rfl) (And.intro (ren_same rfl rfl) (And.intro (ren_same rfl rfl) (And.intro (ren_same rfl rfl) (And.intro (ren_same rfl rfl) (And.intro (ren_same rfl rfl) trivial))))))))) rfl) hq)))))) (fun c hq => (And.intro rfl (And.intro rfl (And.intro rfl (Exists.intro (fbox_w0l0_10_tm x g0 g1 ((minI (minI (minI s.1 (List.getD x (Int.toNat s.2.2.2.2) (((0 : Int), (0 : Int)), (((0 : Int), (0 : Int)), ((0 : Int), (0 : Int))))).1.1) (List.getD x (Int.toNat s.2.2.2.2) (((0 : Int), (0 : Int)), (((0 : Int), (0 : Int)), ((0 : Int), (0 : Int))))).2.1.1) (List.getD x (Int.toNat s.2.2.2.2) (((0 : Int), (0 : Int)), (((0 : Int), (0 : Int)), ((0 : Int), (0 : Int))))).2.2.1), ((minI (minI (minI s.2.1 (List.getD x (Int.toNat s.2.2.2.2) (((0 : Int), (0 : Int)), (((0 : Int), (0 : Int)), ((0 : Int), (0 : Int))))).1.2) (List.getD x (Int.toNat s.2.2.2.2) (((0 : Int), (0 : Int)), (((0 : Int), (0 : Int)), ((0 : Int), (0 : Int))))).2.1.2) (List.getD x (Int.toNat s.2.2.2.2) (((0 : Int), (0 : Int)), (((0 : Int), (0 : Int)), ((0 : Int), (0 : Int))))).2.2.2), ((maxI (maxI (maxI s.2.2.1 (List.getD x (Int.toNat s.2.2.2.2) (((0 : Int), (0 : Int)), (((0 : Int), (0 : Int)), ((0 : Int), (0 : Int))))).1.1) (List.getD x (Int.toNat s.2.2.2.2) (((0 : Int), (0 : Int)), (((0 : Int), (0 : Int)), ((0 : Int), (0 : Int))))).2.1.1) (List.getD x (Int.toNat s.2.2.2.2) (((0 : Int), (0 : Int)), (((0 : Int), (0 : Int)), ((0 : Int), (0 : Int))))).2.2.1), ((maxI (maxI (maxI s.2.2.2.1 (List.getD x (Int.toNat s.2.2.2.2) (((0 : Int), (0 : Int)), (((0 : Int), (0 : Int)), ((0 : Int), (0 : Int))))).1.2) (List.getD x (Int.toNat s.2.2.2.2) (((0 : Int), (0 : Int)), (((0 : Int), (0 : Int)), ((0 : Int), (0 : Int))))).2.1.2) (List.getD x (Int.toNat s.2.2.2.2) (((0 : Int), (0 : Int)), (((0 : Int), (0 : Int)), ((0 : Int), (0 : Int))))).2.2.2), (w64 (s.2.2.2.2 + (1 : Int)))))))) (And.intro (ren_ok (π := [.same 0, .same 1, .same 2, .same 3, .same 4, .same 5, .same 6, .same 7, .same 8, .same 9]) (And.intro rfl (And.intro rfl (And.intro rfl (And.intro rfl trivial)))) (And.intro (ren_same rfl rfl) (And.intro (ren_same rfl rfl) (And.intro (ren_same rfl rfl) (And.intro (ren_same rfl rfl) (And.intro (ren_same rfl rfl) (And.intro (ren_same rfl rfl) (And.intro (ren_same rfl rfl) (And.intro (ren_same rfl rfl) (And.intro (ren_same rfl rfl) trivial))))))))) rfl) hq)))))))))))))))))))))))))))))))))))))))))))))))))))))) (fun c hq => (Exists.intro ⟨[D, D, D, D, D, D, D, D, D, D, D, D, D, D, D, D, D, D, D, D, D, D, D], [.row yy6 x 0, .cells [ci (0 : Int), ci (0 : Int)] 23, .cells [ci (0 : Int), ci (0 : Int)] 23, .cells [ci (0 : Int)] 41, .cells [ci s.1, ci s.2.1] 23, .cells [ci s.2.2.1, ci s.2.2.2.1] 23, .gone, .cells [.full 0] 57, .loop g0 LoopState.ready Option.none, .pin g1 9]⟩ (And.intro (ren_ok (π := [.same 0, .same 1, .same 2, .same 3, .same 4, .same 5, .same 6, .same 7, .same 8, .same 9]) trivial (And.intro (ren_same rfl rfl) (And.intro (ren_same rfl rfl) (And.intro (ren_same rfl rfl) (And.intro (ren_same rfl rfl) (And.intro (ren_same rfl rfl) (And.intro (ren_same rfl rfl) (And.intro (ren_same rfl rfl) (And.intro (ren_same rfl rfl) (And.intro (ren_same rfl rfl) trivial))))))))) rfl) hq)))))) st K hk
theorem fbox_y186_0_ok (x : (List I6)) : ∀ ys, YsOk Tryz.prog ys → LpsOk Tryz.prog noX (bodyOf Tryz.f186) (fbox_y186_0 x ys) := fun ys hy => LpsOk.nil
theorem fbox_y186_1_ok (x : (List I6)) : ∀ ys, YsOk Tryz.prog ys → LpsOk Tryz.prog noX (bodyOf Tryz.f186) (fbox_y186_1 x ys) := fun ys hy => LpsOk.unroll tt_ok ⟨sp_msquare_ok, hy, (ItsOk.cons (Enters.of (fn := Tryz.f170) (by kernel_rfl) (by kernel_rfl) (by kernel_rfl)) (ISpecOk.fn tt_ok sp_msquare_ok mixed (fn := Tryz.f170) (by kernel_rfl) (by kernel_rfl) (ItsOk.nil _ _) (fun ys hy => LpsOk.nil)) (ItsOk.nil _ _))⟩ mixed 4 (fbox_y186_0_ok x ys hy) (by kernel_rfl) (by kernel_rfl)
theorem fbox_y186_2_ok (x : (List I6)) : ∀ ys, YsOk Tryz.prog ys → LpsOk Tryz.prog noX (bodyOf Tryz.f186) (fbox_y186_2 x ys) := fun ys hy => LpsOk.consL tt_ok ⟨sp_msquare_ok, hy, (ItsOk.cons (Enters.of (fn := Tryz.f170) (by kernel_rfl) (by kernel_rfl) (by kernel_rfl)) (ISpecOk.fn tt_ok sp_msquare_ok mixed (fn := Tryz.f170) (by kernel_rfl) (by kernel_rfl) (ItsOk.nil _ _) (fun ys hy => LpsOk.nil)) (ItsOk.nil _ _))⟩ mixed (fbox_y186_1_ok x ys hy) (by kernel_rfl) (by kernel_rfl) (LOk.cons (LOk.atLoop fun g0 => LOk.atPin fun g1 => LOk.cert) LOk.nil)
noncomputable def fbox (x : (List I6)) : (I2 × (I2 × Int)) :=
 (if (((((List.length x) : Nat) : Int) == (0 : Int)) = true) then
 (((0 : Int), (0 : Int)), (((0 : Int), (0 : Int)), (1 : Int))) else
 (letV (run (fbox_w0l0_10_step x ()) ((List.getD x 0 (((0 : Int), (0 : Int)), (((0 : Int), (0 : Int)), ((0 : Int), (0 : Int))))).1.1, ((List.getD x 0 (((0 : Int), (0 : Int)), (((0 : Int), (0 : Int)), ((0 : Int), (0 : Int))))).1.2, ((List.getD x 0 (((0 : Int), (0 : Int)), (((0 : Int), (0 : Int)), ((0 : Int), (0 : Int))))).1.1, ((List.getD x 0 (((0 : Int), (0 : Int)), (((0 : Int), (0 : Int)), ((0 : Int), (0 : Int))))).1.2, (0 : Int)))))) fun r_1 =>
 (Sum.elim (fun a =>
 (((0 : Int), (0 : Int)), (((0 : Int), (0 : Int)), (5 : Int)))) (fun b =>
 ((b.1, b.2.1), (b.2.2, (0 : Int)))) r_1)))
noncomputable def fbox_pre (x : (List I6)) : Prop :=
 (¬ (((((List.length x) : Nat) : Int) == (0 : Int)) = true) →
 (((0 : Int) < (((List.length x) : Nat) : Int)) ∧
 ((0 < (List.length x)) ∧
 ((0 < (List.length x)) ∧
 ((0 < (List.length x)) ∧
 (((0 : Int) < (((List.length x) : Nat) : Int)) ∧
 ((0 < (List.length x)) ∧
 ((0 < (List.length x)) ∧
 ((0 < (List.length x)) ∧
 (Term (fbox_w0l0_10_step x ()) (fbox_w0l0_10_pre x ()) ((List.getD x 0 (((0 : Int), (0 : Int)), (((0 : Int), (0 : Int)), ((0 : Int), (0 : Int))))).1.1, ((List.getD x 0 (((0 : Int), (0 : Int)), (((0 : Int), (0 : Int)), ((0 : Int), (0 : Int))))).1.2, ((List.getD x 0 (((0 : Int), (0 : Int)), (((0 : Int), (0 : Int)), ((0 : Int), (0 : Int))))).1.1, ((List.getD x 0 (((0 : Int), (0 : Int)), (((0 : Int), (0 : Int)), ((0 : Int), (0 : Int))))).1.2, (0 : Int)))))))))))))))
theorem fbox_vc (x : (List I6)) (Q : (I2 × (I2 × Int)) → Prop) : fnE ⟨tt, sp_msquare, noX, [], [], ((186, itFn tt sp_msquare noX (fbox_y186_2 x) ((170, itFn tt sp_msquare noX (fun ys => []) [] Tryz.f170) :: []) Tryz.f186) :: ((170, itFn tt sp_msquare noX (fun ys => []) [] Tryz.f170) :: []))⟩ Tryz.f134 (argsE (.one (Ty.sl yy6)) x) (heapE (.one (Ty.sl yy6)) x) (retE (.pair (.agg yy2) (.pair (.agg yy2) (.one yi))) Q) =
 (cB ((((List.length x) : Nat) : Int) == (0 : Int))
 (Q (zz2, (zz2, (1 : Int))))
 (ob (true && (decide ((0 : Int) < (((List.length x) : Nat) : Int))))
 (ob (decide (0 < (List.length x)))
 (ob (decide (0 < (List.length x)))
 (ob (decide (0 < (List.length x)))
 (ob (true && (decide ((0 : Int) < (((List.length x) : Nat) : Int))))
 (ob (decide (0 < (List.length x)))
 (ob (decide (0 < (List.length x)))
 (ob (decide (0 < (List.length x)))
 (∀ ρ1 : Env,
 ((ρ1 = ρ1) ∧
 ((6 = 6) ∧
 (∀ r : Loop,
 (∀ ρ0 : Env,
 (Exists fun tq : Unit × (Nat → AV) => CertOk ⟨tt, sp_msquare, noX, (fbox_y186_1 x (ysE 8 (.v (.one (.full 0)) :: und :: .v (.one (.ptr 1 0)) :: .v (.one (.ptr 2 0)) :: .v (.one (.ptr 3 0)) :: .v (.one (.ptr 4 0)) :: .v (.one (.ptr 5 0)) :: und :: .v (.one (.full 0)) :: vi (((List.length x) : Nat) : Int) :: vb ((((List.length x) : Nat) : Int) == (0 : Int)) :: und :: und :: .v (.one (.full 0)) :: .v (.one (.eptr 0 0 0)) :: .v (.one (.eptr 0 0 0)) :: .v (.agg [ci (List.getD x 0 zz6).1.1, ci (List.getD x 0 zz6).1.2]) :: .v (.one (.full 0)) :: .v (.one (.eptr 0 0 0)) :: .v (.one (.eptr 0 0 0)) :: .v (.agg [ci (List.getD x 0 zz6).1.1, ci (List.getD x 0 zz6).1.2]) :: .v (.one (.full 0)) :: .v (.one (.clo (Fn.func 186) [] [(Ref.loc 7 0)])) :: und :: und :: und :: und :: und :: und :: und :: und :: und :: und :: und :: und :: und :: und :: und :: und :: und :: und :: und :: und :: und :: und :: und :: und :: und :: und :: und :: und :: und :: und :: und :: []) r ρ0 [23] (fbox_c x) Tryz.f134)), (ysE 8 (.v (.one (.full 0)) :: und :: .v (.one (.ptr 1 0)) :: .v (.one (.ptr 2 0)) :: .v (.one (.ptr 3 0)) :: .v (.one (.ptr 4 0)) :: .v (.one (.ptr 5 0)) :: und :: .v (.one (.full 0)) :: vi (((List.length x) : Nat) : Int) :: vb ((((List.length x) : Nat) : Int) == (0 : Int)) :: und :: und :: .v (.one (.full 0)) :: .v (.one (.eptr 0 0 0)) :: .v (.one (.eptr 0 0 0)) :: .v (.agg [ci (List.getD x 0 zz6).1.1, ci (List.getD x 0 zz6).1.2]) :: .v (.one (.full 0)) :: .v (.one (.eptr 0 0 0)) :: .v (.one (.eptr 0 0 0)) :: .v (.agg [ci (List.getD x 0 zz6).1.1, ci (List.getD x 0 zz6).1.2]) :: .v (.one (.full 0)) :: .v (.one (.clo (Fn.func 186) [] [(Ref.loc 7 0)])) :: und :: und :: und :: und :: und :: und :: und :: und :: und :: und :: und :: und :: und :: und :: und :: und :: und :: und :: und :: und :: und :: und :: und :: und :: und :: und :: und :: und :: und :: und :: und :: []) r ρ0 [23] (fbox_c x) Tryz.f134), ((170, itFn tt sp_msquare noX (fun ys => []) [] Tryz.f170) :: [])⟩ (.loop (cI (blk 0 (bodyOf Tryz.f186)))) 0 (fbox_w0l0_10_sp x r ρ0 tq.1) ∧ (Exists fun s0 : (Int × (Int × I3)) => Weak ⟨[.v (.one (.yld 8)), .v (.one (.ptr 7 0)), und, und, und, und, und, .v (.one (.full 0)), vi (((List.length x) : Nat) : Int), vi (0 : Int), und, und, und, und, und, und, und, und, und, und, und, und, und], [.row yy6 x 0, .cells [ci (0 : Int), ci (0 : Int)] 23, .cells [ci (0 : Int), ci (0 : Int)] 23, .cells [ci (0 : Int)] 41, .cells [ci (List.getD x 0 zz6).1.1, ci (List.getD x 0 zz6).1.2] 23, .cells [ci (List.getD x 0 zz6).1.1, ci (List.getD x 0 zz6).1.2] 23, .gone, .cells [.full 0] 57, .loop r LoopState.ready Option.none, .pin ρ0 9]⟩ (fbox_w0l0_10_tm x r ρ0 s0) ∧ Term (fbox_w0l0_10_step x tq.1) (fbox_w0l0_10_pre x tq.1) s0 ∧ ∀ r_1 : ((Int × I3) ⊕ (Int × I3)), r_1 = run (fbox_w0l0_10_step x tq.1) s0 →
 (cS r_1 (fun a =>
 ((ρ0 = ρ0) ∧
 ((9 = 9) ∧
 (Q (zz2, (zz2, (5 : Int))))))) (fun b =>
 ((ρ0 = ρ0) ∧
 ((9 = 9) ∧
 (Q ((b.1, b.2.1), (b.2.2, (0 : Int)))))))))))))))))))))))) := by kernel_rfl
theorem fbox_fn (x : (List I6)) (Q : (I2 × (I2 × Int)) → Prop) (hp : fbox_pre x) (hq : Q (fbox x)) : Vc (fnE ⟨tt, sp_msquare, noX, [], [], ((186, itFn tt sp_msquare noX (fbox_y186_2 x) ((170, itFn tt sp_msquare noX (fun ys => []) [] Tryz.f170) :: []) Tryz.f186) :: ((170, itFn tt sp_msquare noX (fun ys => []) [] Tryz.f170) :: []))⟩ Tryz.f134 (argsE (.one (Ty.sl yy6)) x) (heapE (.one (Ty.sl yy6)) x) (retE (.pair (.agg yy2) (.pair (.agg yy2) (.one yi))) Q)) := .eq (fbox_vc x Q) (have hp := Eq.mp (fbox_pre.eq_1 x) hp; have hq := Eq.mp (congrArg Q (fbox.eq_1 x)) hq;
 (cB_b (Q := Q) hq (fun c hq => hq) (fun c hq => have hp := (hp c); (ob_k (and_t rfl (decide_eq_true hp.1)) (have hp := hp.2; (ob_k (decide_eq_true hp.1) (have hp := hp.2; (ob_k (decide_eq_true hp.1) (have hp := hp.2; (ob_k (decide_eq_true hp.1) (have hp := hp.2; (ob_k (and_t rfl (decide_eq_true hp.1)) (have hp := hp.2; (ob_k (decide_eq_true hp.1) (have hp := hp.2; (ob_k (decide_eq_true hp.1) (have hp := hp.2; (ob_k (decide_eq_true hp.1) (have hp := hp.2; (fun ρ1 => (And.intro rfl (And.intro rfl (fun r => (fun ρ0 => (Exists.intro ( (), (nthD (.v (.one (.full 0)) :: und :: .v (.one (.ptr 1 0)) :: .v (.one (.ptr 2 0)) :: .v (.one (.ptr 3 0)) :: .v (.one (.ptr 4 0)) :: .v (.one (.ptr 5 0)) :: und :: .v (.one (.full 0)) :: vi (((List.length x) : Nat) : Int) :: vb ((((List.length x) : Nat) : Int) == (0 : Int)) :: und :: und :: .v (.one (.full 0)) :: .v (.one (.eptr 0 0 0)) :: .v (.one (.eptr 0 0 0)) :: .v (.agg [ci (List.getD x 0 (((0 : Int), (0 : Int)), (((0 : Int), (0 : Int)), ((0 : Int), (0 : Int))))).1.1, ci (List.getD x 0 (((0 : Int), (0 : Int)), (((0 : Int), (0 : Int)), ((0 : Int), (0 : Int))))).1.2]) :: .v (.one (.full 0)) :: .v (.one (.eptr 0 0 0)) :: .v (.one (.eptr 0 0 0)) :: .v (.agg [ci (List.getD x 0 (((0 : Int), (0 : Int)), (((0 : Int), (0 : Int)), ((0 : Int), (0 : Int))))).1.1, ci (List.getD x 0 (((0 : Int), (0 : Int)), (((0 : Int), (0 : Int)), ((0 : Int), (0 : Int))))).1.2]) :: .v (.one (.full 0)) :: .v (.one (.clo (Fn.func 186) [] [(Ref.loc 7 0)])) :: und :: und :: und :: und :: und :: und :: und :: und :: und :: und :: und :: und :: und :: und :: und :: und :: und :: und :: und :: und :: und :: und :: und :: und :: und :: und :: und :: und :: und :: und :: und :: []))) (And.intro (fbox_w0l0_10_ok x r ρ0 () (nthD (.v (.one (.full 0)) :: und :: .v (.one (.ptr 1 0)) :: .v (.one (.ptr 2 0)) :: .v (.one (.ptr 3 0)) :: .v (.one (.ptr 4 0)) :: .v (.one (.ptr 5 0)) :: und :: .v (.one (.full 0)) :: vi (((List.length x) : Nat) : Int) :: vb ((((List.length x) : Nat) : Int) == (0 : Int)) :: und :: und :: .v (.one (.full 0)) :: .v (.one (.eptr 0 0 0)) :: .v (.one (.eptr 0 0 0)) :: .v (.agg [ci (List.getD x 0 (((0 : Int), (0 : Int)), (((0 : Int), (0 : Int)), ((0 : Int), (0 : Int))))).1.1, ci (List.getD x 0 (((0 : Int), (0 : Int)), (((0 : Int), (0 : Int)), ((0 : Int), (0 : Int))))).1.2]) :: .v (.one (.full 0)) :: .v (.one (.eptr 0 0 0)) :: .v (.one (.eptr 0 0 0)) :: .v (.agg [ci (List.getD x 0 (((0 : Int), (0 : Int)), (((0 : Int), (0 : Int)), ((0 : Int), (0 : Int))))).1.1, ci (List.getD x 0 (((0 : Int), (0 : Int)), (((0 : Int), (0 : Int)), ((0 : Int), (0 : Int))))).1.2]) :: .v (.one (.full 0)) :: .v (.one (.clo (Fn.func 186) [] [(Ref.loc 7 0)])) :: und :: und :: und :: und :: und :: und :: und :: und :: und :: und :: und :: und :: und :: und :: und :: und :: und :: und :: und :: und :: und :: und :: und :: und :: und :: und :: und :: und :: und :: und :: und :: []))) (Exists.intro ((List.getD x 0 (((0 : Int), (0 : Int)), (((0 : Int), (0 : Int)), ((0 : Int), (0 : Int))))).1.1, ((List.getD x 0 (((0 : Int), (0 : Int)), (((0 : Int), (0 : Int)), ((0 : Int), (0 : Int))))).1.2, ((List.getD x 0 (((0 : Int), (0 : Int)), (((0 : Int), (0 : Int)), ((0 : Int), (0 : Int))))).1.1, ((List.getD x 0 (((0 : Int), (0 : Int)), (((0 : Int), (0 : Int)), ((0 : Int), (0 : Int))))).1.2, (0 : Int))))) (And.intro (ren_ok (π := [.same 0, .same 1, .same 2, .same 3, .same 4, .same 5, .same 6, .same 7, .same 8, .same 9]) (And.intro rfl (And.intro rfl (And.intro rfl (And.intro rfl trivial)))) (And.intro (ren_same rfl rfl) (And.intro (ren_same rfl rfl) (And.intro (ren_same rfl rfl) (And.intro (ren_same rfl rfl) (And.intro (ren_same rfl rfl) (And.intro (ren_same rfl rfl) (And.intro (ren_same rfl rfl) (And.intro (ren_same rfl rfl) (And.intro (ren_same rfl rfl) trivial))))))))) rfl) (And.intro hp (let_0 (Q := Q) hq fun r_1 hq => (cS_k (Q := Q) (P := fun _ => True) (P' := fun _ => True) (by cases r_1 <;> trivial) hq (fun a _ hq => (And.intro rfl (And.intro rfl hq))) (fun b _ hq => (And.intro rfl (And.intro rfl hq))))))))))))))))))))))))))))))))))
noncomputable def fbox_S : FnS := ⟨(.one (Ty.sl yy6)), (.pair (.agg yy2) (.pair (.agg yy2) (.one yi))), fbox_pre, fbox⟩
theorem fbox_ok : SpecOk Tryz.prog 134 (fnSpec fbox_S) := SpecOk.fnT' (fn := Tryz.f134) tt_ok sp_msquare_ok mixed (by kernel_rfl) (by kernel_rfl) (.one (Ty.sl yy6)) (.pair (.agg yy2) (.pair (.agg yy2) (.one yi))) fbox_pre fbox (by kernel_rfl) fun x hp => ⟨_, _, (ItsOk.cons (Enters.of (fn := Tryz.f186) (by kernel_rfl) (by kernel_rfl) (by kernel_rfl)) (ISpecOk.fn tt_ok sp_msquare_ok mixed (fn := Tryz.f186) (by kernel_rfl) (by kernel_rfl) (ItsOk.cons (Enters.of (fn := Tryz.f170) (by kernel_rfl) (by kernel_rfl) (by kernel_rfl)) (ISpecOk.fn tt_ok sp_msquare_ok mixed (fn := Tryz.f170) (by kernel_rfl) (by kernel_rfl) (ItsOk.nil _ _) (fun ys hy => LpsOk.nil)) (ItsOk.nil _ _)) (fbox_y186_2_ok x)) (ItsOk.cons (Enters.of (fn := Tryz.f170) (by kernel_rfl) (by kernel_rfl) (by kernel_rfl)) (ISpecOk.fn tt_ok sp_msquare_ok mixed (fn := Tryz.f170) (by kernel_rfl) (by kernel_rfl) (ItsOk.nil _ _) (fun ys hy => LpsOk.nil)) (ItsOk.nil _ _))), LpsOk.nil, fbox_fn x (fun y => y = fbox x) hp rfl⟩
def sp_fbox : List (Nat × Ev.Spec) := (134, fnSpec fbox_S) :: sp_msquare
theorem sp_fbox_ok : SpecsOk Tryz.prog sp_fbox := SpecsOk.add (fn := Tryz.f134) (by kernel_rfl) fbox_ok sp_msquare_ok
noncomputable def cloneT (x : (List I6)) : (List I6) :=
 x
noncomputable def cloneT_pre (x : (List I6)) : Prop :=
 (∀ b : Bool, ((0 < (List.length x)) → (b = false)) → (((if (b = true) then
 [] else
 x) = x) ∧ (¬ (b = true) →
 ((0 + (List.length x)) < 1099511627776))))
noncomputable def cloneT_t (x : (List I6)) : Tr (List I6) true :=
 (.nil (fun b => ((0 < (List.length x)) → (b = false))) fun b =>
 (.b01 b
 (.ret [])
 (.od ((0 + (List.length x)) < 1099511627776)
 (.ret x))))
noncomputable abbrev cloneT_S : FnS := ⟨(.one (Ty.sl yy6)), (.one (Ty.sl yy6)), cloneT_pre, cloneT⟩
theorem cloneT_ok : SpecOk Tryz.prog 137 (fnSpec cloneT_S) := SpecOk.tr cloneT_S cloneT_t (fn := Tryz.f137) tt_ok sp_fbox_ok mixed (by kernel_rfl) (ItsOk.dead 137 (fn := Tryz.f137) (by kernel_rfl)) (fun x => LpsOk.nil) (fun x => (by kernel_rfl)) fun x Q => (by kernel_rfl)
def sp_cloneT : List (Nat × Ev.Spec) := (137, fnSpec cloneT_S) :: sp_fbox
theorem sp_cloneT_ok : SpecsOk Tryz.prog sp_cloneT := SpecsOk.add (fn := Tryz.f137) (by kernel_rfl) cloneT_ok sp_fbox_ok
noncomputable def movec (x : (I2 × I2)) : I2 :=
 ((w64 (x.1.1 + x.2.1)), (w64 (x.1.2 + x.2.2)))
noncomputable def movec_pre (_ : (I2 × I2)) : Prop := True
noncomputable def movec_t (x : (I2 × I2)) : Tr I2 false :=
 (.ret ((w64 (x.1.1 + x.2.1)), (w64 (x.1.2 + x.2.2))))
noncomputable abbrev movec_S : FnS := ⟨(.pair (.agg yy2) (.ptr (.prod (.int .i64) (.int .i64)))), (.agg yy2), movec_pre, movec⟩
theorem movec_ok : SpecOk Tryz.prog 92 (fnSpec movec_S) := SpecOk.tr movec_S movec_t (fn := Tryz.f92) tt_ok sp_cloneT_ok mixed (by kernel_rfl) (ItsOk.nil _ _) (fun x => LpsOk.nil) (fun x => (by kernel_rfl)) fun x Q => (by kernel_rfl)
def sp_movec : List (Nat × Ev.Spec) := (92, fnSpec movec_S) :: sp_cloneT
theorem sp_movec_ok : SpecsOk Tryz.prog sp_movec := SpecsOk.add (fn := Tryz.f92) (by kernel_rfl) movec_ok sp_cloneT_ok
noncomputable def turnedM_l0 (x : ((List I6) × I2)) : LoopD := ⟨[], ⟨pvs 35 0 [(1, .v (.one (.clo 92 0 [.elem 0]))), (5, .v (.one (.full 1))), (12, .v (.one (.full 1))), (13, .v (.one (.i .i64))), (14, .v (.one (.i .i64)))], [.row yy2 0, .row yy6 2], 0, none, [], [0, 3], [4, 1, 2], [(.l yy6), .i, .i], [.n 0, .l yy2 [x.2]]⟩, [⟨(.exit 0), .normal, ⟨pvs 35 0 [(5, .v (.one (.full 0)))], [.row yy6 2], 0, none, [], [], [0], [(.l yy6)], []⟩⟩]⟩
noncomputable def turnedM_l0_step (x : ((List I6) × I2)) (s : ((List I6) × I2)) : ((List I6) × I2) ⊕ (List I6) :=
 (if (s.2.2 < s.2.1) then
 (letV (movec ((List.getD s.1 (Int.toNat s.2.2) (((0 : Int), (0 : Int)), (((0 : Int), (0 : Int)), ((0 : Int), (0 : Int))))).1, x.2)) fun y =>
 (letV (List.set s.1 (Int.toNat s.2.2) (y, (List.getD s.1 (Int.toNat s.2.2) (((0 : Int), (0 : Int)), (((0 : Int), (0 : Int)), ((0 : Int), (0 : Int))))).2)) fun y_1 =>
 (letV (movec ((List.getD s.1 (Int.toNat s.2.2) (((0 : Int), (0 : Int)), (((0 : Int), (0 : Int)), ((0 : Int), (0 : Int))))).2.1, x.2)) fun y_2 =>
 (letV (List.set y_1 (Int.toNat s.2.2) ((List.getD y_1 (Int.toNat s.2.2) (((0 : Int), (0 : Int)), (((0 : Int), (0 : Int)), ((0 : Int), (0 : Int))))).1, (y_2, (List.getD y_1 (Int.toNat s.2.2) (((0 : Int), (0 : Int)), (((0 : Int), (0 : Int)), ((0 : Int), (0 : Int))))).2.2))) fun y_3 =>
 (letV (movec ((List.getD s.1 (Int.toNat s.2.2) (((0 : Int), (0 : Int)), (((0 : Int), (0 : Int)), ((0 : Int), (0 : Int))))).2.2, x.2)) fun y_4 =>
 (letV (List.set y_3 (Int.toNat s.2.2) ((List.getD y_3 (Int.toNat s.2.2) (((0 : Int), (0 : Int)), (((0 : Int), (0 : Int)), ((0 : Int), (0 : Int))))).1, ((List.getD y_3 (Int.toNat s.2.2) (((0 : Int), (0 : Int)), (((0 : Int), (0 : Int)), ((0 : Int), (0 : Int))))).2.1, y_4))) fun y_5 =>
 (Sum.inl (y_5, (s.2.1, (w64 (s.2.2 + (1 : Int)))))))))))) else
 (Sum.inr (s.1)))
noncomputable def turnedM_l0_pre (x : ((List I6) × I2)) (s : ((List I6) × I2)) : Prop :=
 ((s.2.2 < s.2.1) →
 ((((0 : Int) ≤ s.2.2) ∧ (s.2.2 < (((List.length s.1) : Nat) : Int))) ∧
 (((Int.toNat s.2.2) < (List.length s.1)) ∧
 (((Int.toNat s.2.2) < (List.length s.1)) ∧
 (letP (movec ((List.getD s.1 (Int.toNat s.2.2) (((0 : Int), (0 : Int)), (((0 : Int), (0 : Int)), ((0 : Int), (0 : Int))))).1, x.2)) fun y =>
 ((((0 : Int) ≤ s.2.2) ∧ (s.2.2 < (((List.length s.1) : Nat) : Int))) ∧
 (((Int.toNat s.2.2) < (List.length s.1)) ∧
 (((Int.toNat s.2.2) < (List.length s.1)) ∧
 (((Int.toNat s.2.2) < (List.length s.1)) ∧
 (letP (List.set s.1 (Int.toNat s.2.2) (y, (List.getD s.1 (Int.toNat s.2.2) (((0 : Int), (0 : Int)), (((0 : Int), (0 : Int)), ((0 : Int), (0 : Int))))).2)) fun y_1 =>
 (letP (movec ((List.getD s.1 (Int.toNat s.2.2) (((0 : Int), (0 : Int)), (((0 : Int), (0 : Int)), ((0 : Int), (0 : Int))))).2.1, x.2)) fun y_2 =>
 ((((0 : Int) ≤ s.2.2) ∧ (s.2.2 < (((List.length y_1) : Nat) : Int))) ∧
 (((Int.toNat s.2.2) < (List.length y_1)) ∧
 (((Int.toNat s.2.2) < (List.length y_1)) ∧
 (((Int.toNat s.2.2) < (List.length y_1)) ∧
 (letP (List.set y_1 (Int.toNat s.2.2) ((List.getD y_1 (Int.toNat s.2.2) (((0 : Int), (0 : Int)), (((0 : Int), (0 : Int)), ((0 : Int), (0 : Int))))).1, (y_2, (List.getD y_1 (Int.toNat s.2.2) (((0 : Int), (0 : Int)), (((0 : Int), (0 : Int)), ((0 : Int), (0 : Int))))).2.2))) fun y_3 =>
 (letP (movec ((List.getD s.1 (Int.toNat s.2.2) (((0 : Int), (0 : Int)), (((0 : Int), (0 : Int)), ((0 : Int), (0 : Int))))).2.2, x.2)) fun y_4 =>
 ((((0 : Int) ≤ s.2.2) ∧ (s.2.2 < (((List.length y_3) : Nat) : Int))) ∧
 (((Int.toNat s.2.2) < (List.length y_3)) ∧
 (((Int.toNat s.2.2) < (List.length y_3)) ∧
 ((Int.toNat s.2.2) < (List.length y_3))))))))))))))))))))))
noncomputable def turnedM_l0_t (x : ((List I6) × I2)) (s : ((List I6) × I2)) : Tr (((List I6) × I2) ⊕ (List I6)) true :=
 (.i10 (s.2.2 < s.2.1)
 (.oR s.2.2 (((List.length s.1) : Nat) : Int)
 (.od ((Int.toNat s.2.2) < (List.length s.1))
 (.od ((Int.toNat s.2.2) < (List.length s.1))
 (.fn0 movec_S ((List.getD s.1 (Int.toNat s.2.2) zz6).1, x.2) trivial fun y =>
 (.oR s.2.2 (((List.length s.1) : Nat) : Int)
 (.od ((Int.toNat s.2.2) < (List.length s.1))
 (.od ((Int.toNat s.2.2) < (List.length s.1))
 (.od ((Int.toNat s.2.2) < (List.length s.1))
 (.lt (List.set s.1 (Int.toNat s.2.2) (y, (List.getD s.1 (Int.toNat s.2.2) zz6).2)) fun y_1 =>
 (.fn0 movec_S ((List.getD s.1 (Int.toNat s.2.2) zz6).2.1, x.2) trivial fun y_2 =>
 (.oR s.2.2 (((List.length y_1) : Nat) : Int)
 (.od ((Int.toNat s.2.2) < (List.length y_1))
 (.od ((Int.toNat s.2.2) < (List.length y_1))
 (.od ((Int.toNat s.2.2) < (List.length y_1))
 (.lt (List.set y_1 (Int.toNat s.2.2) ((List.getD y_1 (Int.toNat s.2.2) zz6).1, (y_2, (List.getD y_1 (Int.toNat s.2.2) zz6).2.2))) fun y_3 =>
 (.fn0 movec_S ((List.getD s.1 (Int.toNat s.2.2) zz6).2.2, x.2) trivial fun y_4 =>
 (.oR s.2.2 (((List.length y_3) : Nat) : Int)
 (.od ((Int.toNat s.2.2) < (List.length y_3))
 (.od ((Int.toNat s.2.2) < (List.length y_3))
 (.od ((Int.toNat s.2.2) < (List.length y_3))
 (.lt (List.set y_3 (Int.toNat s.2.2) ((List.getD y_3 (Int.toNat s.2.2) zz6).1, ((List.getD y_3 (Int.toNat s.2.2) zz6).2.1, y_4))) fun y_5 =>
 (.ret (.inl (y_5, (s.2.1, (w64 (s.2.2 + (1 : Int))))))))))))))))))))))))))))
 (.ret (.inr (s.1))))
noncomputable def turnedM (x : ((List I6) × I2)) : (List I6) :=
 (letV (cloneT x.1) fun y =>
 (letV (run (turnedM_l0_step x) (y, ((((List.length y) : Nat) : Int), (0 : Int)))) fun r =>
 r))
noncomputable def turnedM_pre (x : ((List I6) × I2)) : Prop :=
 ((cloneT_pre x.1) ∧
 letP (cloneT x.1) fun y =>
 (Term (turnedM_l0_step x) (turnedM_l0_pre x) (y, ((((List.length y) : Nat) : Int), (0 : Int)))))
noncomputable def turnedM_t (x : ((List I6) × I2)) : Tr (List I6) true :=
 (.fn cloneT_S x.1 fun y =>
 (LoopD.lp (turnedM_l0 x) (turnedM_l0_t x) (y, ((((List.length y) : Nat) : Int), (0 : Int))) fun r =>
 (.ret r)))
noncomputable abbrev turnedM_S : FnS := ⟨(.pair (.one (Ty.sl yy6)) (.clo 92 (.ptr (.prod (.int .i64) (.int .i64))))), (.one (Ty.sl yy6)), turnedM_pre, turnedM⟩
theorem turnedM_ok : SpecOk Tryz.prog 91 (fnSpec turnedM_S) := SpecOk.tr turnedM_S turnedM_t (fn := Tryz.f91) tt_ok sp_movec_ok mixed (by kernel_rfl) (ItsOk.nil _ _) (fun x => (LpsOk.tr tt_ok (SpecsOk.ctxI sp_movec_ok (ItsOk.nil _ _)) mixed 0 (turnedM_l0 x) (turnedM_l0_t x) (LpsOk.unrollT tt_ok (SpecsOk.ctxI sp_movec_ok (ItsOk.nil _ _)) mixed 2 4 LpsOk.nil (by kernel_rfl)) (by kernel_rfl) fun g s Q => (by kernel_rfl))) (fun x => (by kernel_rfl)) fun x Q => (by kernel_rfl)
def sp_turnedM : List (Nat × Ev.Spec) := (91, fnSpec turnedM_S) :: sp_movec
theorem sp_turnedM_ok : SpecsOk Tryz.prog sp_turnedM := SpecsOk.add (fn := Tryz.f91) (by kernel_rfl) turnedM_ok sp_movec_ok
noncomputable def fis (x : ((List Int) × ((List I6) × I2))) : Bool :=
 (if ((((List.length x.1) : Nat) : Int) > (500 : Int)) then
 false else
 (if (((((List.length x.2.1) : Nat) : Int) != (((List.length x.1) : Nat) : Int)) = true) then
 false else
 (letV (containsT (x.2.1, false)) fun y =>
 (if (y = true) then
 false else
 (letV (fbox x.2.1) fun y_1 =>
 (if ((y_1.2.2 != (0 : Int)) = true) then
 false else
 (if ((!((y_1.1.1 == (0 : Int)) && ((y_1.1.2 == (0 : Int)) && true))) = true) then
 false else
 (letV (fsizes y_1.2.1) fun y_2 =>
 (if ((x.2.2.1 == y_2.1) = true) then
 (if ((x.2.2.2 == y_2.2) = true) then
 (letV (fapart x.2.1) fun y_3 =>
 y_3) else
 false) else
 false)))))))))
noncomputable def fis_pre (x : ((List Int) × ((List I6) × I2))) : Prop :=
 (¬ ((((List.length x.1) : Nat) : Int) > (500 : Int)) →
 (¬ (((((List.length x.2.1) : Nat) : Int) != (((List.length x.1) : Nat) : Int)) = true) →
 ((containsT_pre (x.2.1, false)) ∧
 letP (containsT (x.2.1, false)) fun y =>
 (¬ (y = true) →
 ((fbox_pre x.2.1) ∧
 letP (fbox x.2.1) fun y_1 =>
 (¬ ((y_1.2.2 != (0 : Int)) = true) →
 (¬ ((!((y_1.1.1 == (0 : Int)) && ((y_1.1.2 == (0 : Int)) && true))) = true) →
 (letP (fsizes y_1.2.1) fun y_2 =>
 (((x.2.2.1 == y_2.1) = true) →
 (((x.2.2.2 == y_2.2) = true) →
 (fapart_pre x.2.1)))))))))))
noncomputable def fis_t (x : ((List Int) × ((List I6) × I2))) : Tr Bool true :=
 (.i01 ((((List.length x.1) : Nat) : Int) > (500 : Int))
 (.ret false)
 (.b01 ((((List.length x.2.1) : Nat) : Int) != (((List.length x.1) : Nat) : Int))
 (.ret false)
 (.fn containsT_S (x.2.1, false) fun y =>
 (.b01 y
 (.ret false)
 (.fn fbox_S x.2.1 fun y_1 =>
 (.b01 (y_1.2.2 != (0 : Int))
 (.ret false)
 (.b01 (!((y_1.1.1 == (0 : Int)) && ((y_1.1.2 == (0 : Int)) && true)))
 (.ret false)
 (.fn0 fsizes_S y_1.2.1 trivial fun y_2 =>
 (.b10 (x.2.2.1 == y_2.1)
 (.b10 (x.2.2.2 == y_2.2)
 (.fn fapart_S x.2.1 fun y_3 =>
 (.ret y_3))
 (.ret false))
 (.ret false))))))))))
noncomputable abbrev fis_S : FnS := ⟨(.agg (Ty.prod (Ty.sl yi) (Ty.prod (Ty.sl yy6) yy2))), (.one Ty.bool), fis_pre, fis⟩
theorem fis_ok : SpecOk Tryz.prog 90 (fnSpec fis_S) := SpecOk.tr fis_S fis_t (fn := Tryz.f90) tt_ok sp_turnedM_ok mixed (by kernel_rfl) (ItsOk.nil _ _) (fun x => LpsOk.nil) (fun x => (by kernel_rfl)) fun x Q => (by kernel_rfl)
def sp_fis : List (Nat × Ev.Spec) := (90, fnSpec fis_S) :: sp_turnedM
theorem sp_fis_ok : SpecsOk Tryz.prog sp_fis := SpecsOk.add (fn := Tryz.f90) (by kernel_rfl) fis_ok sp_turnedM_ok
noncomputable def fmove (x : (((List Int) × ((List I6) × I2)) × I2)) : ((List I6) × Int) :=
 (letV (fis x.1) fun y =>
 (if ((!y) = true) then
 ([], (1 : Int)) else
 (if ((minI x.2.1 x.2.2) < (0 : Int)) then
 ([], (5 : Int)) else
 (if ((maxI x.2.1 x.2.2) > (65536 : Int)) then
 ([], (5 : Int)) else
 (letV (turnedM (x.1.2.1, x.2)) fun y_1 =>
 (y_1, (0 : Int)))))))
noncomputable def fmove_pre (x : (((List Int) × ((List I6) × I2)) × I2)) : Prop :=
 ((fis_pre x.1) ∧
 letP (fis x.1) fun y =>
 (¬ ((!y) = true) →
 (¬ ((minI x.2.1 x.2.2) < (0 : Int)) →
 (¬ ((maxI x.2.1 x.2.2) > (65536 : Int)) →
 (turnedM_pre (x.1.2.1, x.2))))))
noncomputable def fmove_t (x : (((List Int) × ((List I6) × I2)) × I2)) : Tr ((List I6) × Int) true :=
 (.fn fis_S x.1 fun y =>
 (.b01 (!y)
 (.ret ([], (1 : Int)))
 (.i01 ((minI x.2.1 x.2.2) < (0 : Int))
 (.ret ([], (5 : Int)))
 (.i01 ((maxI x.2.1 x.2.2) > (65536 : Int))
 (.ret ([], (5 : Int)))
 (.fn turnedM_S (x.1.2.1, x.2) fun y_1 =>
 (.ret (y_1, (0 : Int))))))))
noncomputable abbrev fmove_S : FnS := ⟨(.pair (.agg (Ty.prod (Ty.sl yi) (Ty.prod (Ty.sl yy6) yy2))) (.agg yy2)), (.pair (.one (Ty.sl yy6)) (.one yi)), fmove_pre, fmove⟩
theorem fmove_ok : SpecOk Tryz.prog 48 (fnSpec fmove_S) := SpecOk.tr fmove_S fmove_t (fn := Tryz.f48) tt_ok sp_fis_ok mixed (by kernel_rfl) (ItsOk.nil _ _) (fun x => LpsOk.nil) (fun x => (by kernel_rfl)) fun x Q => (by kernel_rfl)
def sp_fmove : List (Nat × Ev.Spec) := (48, fnSpec fmove_S) :: sp_fis
theorem sp_fmove_ok : SpecsOk Tryz.prog sp_fmove := SpecsOk.add (fn := Tryz.f48) (by kernel_rfl) fmove_ok sp_fis_ok
end Go.Proofs.YtfgdjlhilladhaaGreat
