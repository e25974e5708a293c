/- LiftBox's and LiftTurned's functions answer true, whatever their input. -/
import Derived.Test.YtfgdjlhilladhaaGreatPh0
import Derived.Test.YtfgdjlhilladhaaGreatGb
import Derived.Test.YtfgdjlhilladhaaGreatBe
namespace Go.Proofs.YtfgdjlhilladhaaGreat
open Go Go.Ev Go.Proofs
abbrev InT (x y : Int) : Prop := 0 ≤ x ∧ x < 256 ∧ 0 ≤ y ∧ y < 256
def Cen (x y : Int) : Int × Int := (16 * x + 8, 16 * y + 8)
theorem lcentre_law (x y : Int) : lcentre (x, y) = if InT x y then (Cen x y, 0) else ((0, 0), 5) := by
  unfold lcentre Cen
  dsimp only
  by_cases h : InT x y
  · rw [if_pos h]
    obtain ⟨h1, h2, h3, h4⟩ := h
    have e1 : ¬ minI x y < 0 := by unfold minI; split <;> omega
    have e2 : ¬ maxI x y ≥ 256 := by unfold maxI; split <;> omega
    rw [if_neg e1, if_neg e2, w64_id (n := 16 * x) (by omega) (by omega), w64_id (n := 16 * y) (by omega) (by omega), w64_id (by omega) (by omega), w64_id (by omega) (by omega)]
  · rw [if_neg h]
    by_cases e1 : minI x y < 0
    · rw [if_pos e1]
    · rw [if_neg e1]
      have e2 : maxI x y ≥ 256 := by
        unfold minI at e1; unfold maxI; unfold InT at h
        split at e1 <;> split <;> omega
      rw [if_pos e2]
theorem cen_sm {x y : Int} (h : InT x y) : Sm (Cen x y) := by
  unfold Cen Sm; obtain ⟨h1, h2, h3, h4⟩ := h; dsimp only; omega
theorem lpoint_tm (x : Int × (Int × (((Int × Int) × ((Int × Int) × (Int × Int))) × ((Int × (Int × Int)) × ((Int × (Int × Int)) × (Int × (Int × Int))))))) : lpoint_pre x :=
  fun _ => ⟨closest_tm _, fun _ => nlift_tm _⟩
/-- Which point is nearest to a texel's centre. -/
def Qp (x y : Int) (a b c : Int × Int) : Int × Int := if 0 < InV (Cen x y) a b c then Cen x y else (Best (Cen x y) a b c).1
theorem lpoint_law (x y : Int) (a b c : Int × Int) (s : (Int × (Int × Int)) × ((Int × (Int × Int)) × (Int × (Int × Int)))) :
    lpoint (x, (y, ((a, (b, c)), s))) = if InT x y then (if Right a b c then nlift (Qp x y a b c, ((a, (b, c)), s)) else ((0, (0, 0)), 1)) else ((0, (0, 0)), 5) := by
  unfold lpoint
  dsimp only [letV]
  rw [lcentre_law]
  by_cases h : InT x y
  · rw [if_pos h, if_pos h, if_neg (by simp)]
    dsimp only
    rw [closest_law, if_pos (cen_sm h)]
    by_cases hr : Right a b c
    · rw [if_pos hr, if_pos hr]
      unfold Qp
      by_cases hi : 0 < InV (Cen x y) a b c
      · rw [if_pos hi, if_pos hi, if_neg (by simp)]
      · rw [if_neg hi, if_neg hi, if_neg (by simp)]
    · rw [if_neg hr, if_neg hr, if_pos (by decide)]
  · rw [if_neg h, if_neg h, if_pos (by decide)]
end Go.Proofs.YtfgdjlhilladhaaGreat
