/- Plain laws: what the models of numbers, of small points and of fractions come to. -/
import Derived.Test.YtfgdjlhilladhaaGreatDb0
import Derived.Test.YtfgdjlhilladhaaGreatQa
namespace Go.Proofs.YtfgdjlhilladhaaGreat
open Go Go.Ev Go.Proofs
/-! ### Loops over a row -/
abbrev Sm3 (p : Int × (Int × Int)) : Prop := (-16384 ≤ p.1 ∧ p.1 ≤ 16384) ∧ (-16384 ≤ p.2.1 ∧ p.2.1 ≤ 16384) ∧ (-16384 ≤ p.2.2 ∧ p.2.2 ≤ 16384)
theorem small3_law (x : List (Int × (Int × Int))) (hl : x.length < 4611686018427387904) : small3_pre x ∧ small3 x = decide (∀ p ∈ x, Sm3 p) := by
  have hn : ∀ a b c : Int, within (16384, [a, b, c]) = decide (Sm3 (a, (b, c))) := fun a b c => by
    rw [(within_law 16384 (by omega) (by omega) [a, b, c] (by simp)).2, Bool.eq_iff_iff]; simp
  rw [← notAny (bad := fun p => !decide (Sm3 p)) (fun _ => rfl)]
  refine all_loop x hl _ _ _ (fun i hi => ?_) (fun i v hv => ?_) ?_
  · unfold small3_l0_pre
    intro h
    simp only [Int.toNat_natCast]
    exact ⟨by omega, by omega, by omega, (within_law 16384 (by omega) (by omega) _ (by simp)).1⟩
  · have hlt := lt_of_get hv
    unfold small3_l0_step
    rw [if_pos (by omega), Int.toNat_natCast, getD_of hv]
    unfold letV
    rw [hn]
  · unfold small3_l0_step
    rw [if_neg (by omega)]
/-! ### Plane geometry -/
theorem small3_three (a b c : Int × (Int × Int)) : small3 [a, b, c] = decide (Sm3 a ∧ Sm3 b ∧ Sm3 c) := by
  rw [(small3_law _ (by simp)).2, Bool.eq_iff_iff, decide_eq_true_iff, decide_eq_true_iff]
  simp only [List.mem_cons, List.not_mem_nil, or_false, forall_eq_or_imp, forall_eq]
end Go.Proofs.YtfgdjlhilladhaaGreat
