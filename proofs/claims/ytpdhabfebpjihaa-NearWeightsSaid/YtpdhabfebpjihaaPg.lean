/- NearWeights' function answers true, whatever its input. -/
import Derived.Test.YtpdhabfebpjihaaPd
import Derived.Test.YtpdhabfebpjihaaDgc
namespace Go.Proofs.Ytpdhabfebpjihaa
open Go Go.Ev Go.Proofs
theorem lweights_tm (x : (Int × Int) × ((Int × Int) × ((Int × Int) × (Int × Int)))) : l11weights_pre x :=
  ⟨weights_tm _, mIn_tm _, fun _ => neared_tm _, fun _ _ _ _ =>
    ⟨fun _ => ⟨fun _ => ⟨fun _ => ⟨fun _ => neared_tm _, fun _ => neared_tm _⟩, fun _ => neared_tm _⟩, fun _ => ⟨fun _ => ⟨fun _ => neared_tm _, fun _ => neared_tm _⟩, fun _ => neared_tm _⟩⟩,
     fun _ => ⟨fun _ => ⟨fun _ => neared_tm _, fun _ => neared_tm _⟩, fun _ => neared_tm _⟩⟩⟩
theorem sum_w {u v w x y z n q : Int} (hu : -134217728 ≤ u ∧ u ≤ 134217728) (hv : -134217728 ≤ v ∧ v ≤ 134217728) (hw : -134217728 ≤ w ∧ w ≤ 134217728) (hx : -16384 ≤ x ∧ x ≤ 16384) (hy : -16384 ≤ y ∧ y ≤ 16384) (hz : -16384 ≤ z ∧ z ≤ 16384)
    (h : u * x + v * y + w * z = n * q) : w64 (w64 (w64 (u * x) + w64 (v * y)) + w64 (w * z)) = w64 (n * q) := by
  have m1 := mulb (a := u) (b := x) (A := 134217728) (B := 16384) hu.1 hu.2 hx.1 hx.2
  have m2 := mulb (a := v) (b := y) (A := 134217728) (B := 16384) hv.1 hv.2 hy.1 hy.2
  have m3 := mulb (a := w) (b := z) (A := 134217728) (B := 16384) hw.1 hw.2 hz.1 hz.2
  rw [w64_id (n := u * x) (by omega) (by omega), w64_id (n := v * y) (by omega) (by omega), w64_id (n := w * z) (by omega) (by omega), w64_id (n := u * x + v * y) (by omega) (by omega), h]
theorem lweights_law (x : (Int × Int) × ((Int × Int) × ((Int × Int) × (Int × Int)))) : l11weights x = true := by
  obtain ⟨p, a, b, c⟩ := x
  unfold l11weights
  rw [weights_law, mIn_law, neared_law]
  by_cases hp : Sm p
  · rw [if_pos hp, if_pos hp]
    by_cases hr : Right a b c
    · obtain ⟨⟨ha, hb, hc⟩, hne⟩ := id hr
      rw [if_pos hr, if_pos hr]
      dsimp only [letV]
      rw [if_neg (by decide), if_neg (by decide)]
      have i1 := inV_pos p a b c
      have i2 := inV_two p a b c
      have t1 : Det b c a = Det a b c := det_turn a b c
      have t2 : Det c a b = Det a b c := by rw [det_turn b c a, t1]
      unfold Fd at i1 i2
      rw [t1, t2] at i1 i2
      have hA := sg_self hne
      have d0 := (det_sg (s := Det a b c) (det_in hb hc hp)).2
      have d1 := (det_sg (s := Det a b c) (det_in hc ha hp)).2
      have d2 := (det_sg (s := Det a b c) (det_in ha hb hp)).2
      have d3 := (det_sg (s := Det a b c) (det_in ha hb hc)).2
      have hs : sg (Det a b c) * Det b c p + sg (Det a b c) * Det c a p + sg (Det a b c) * Det a b p = sg (Det a b c) * Det a b c := by
        have := det_sum a b c p
        generalize Det a b c = A at *
        rw [← this]; grind
      have hx : sg (Det a b c) * Det b c p * a.1 + sg (Det a b c) * Det c a p * b.1 + sg (Det a b c) * Det a b p * c.1 = sg (Det a b c) * Det a b c * p.1 := by
        rw [Int.mul_assoc _ (Det a b c), det_x, Int.mul_add, Int.mul_add, Int.mul_assoc, Int.mul_assoc, Int.mul_assoc]
      have hy : sg (Det a b c) * Det b c p * a.2 + sg (Det a b c) * Det c a p * b.2 + sg (Det a b c) * Det a b p * c.2 = sg (Det a b c) * Det a b c * p.2 := by
        rw [Int.mul_assoc _ (Det a b c), det_y, Int.mul_add, Int.mul_add, Int.mul_assoc, Int.mul_assoc, Int.mul_assoc]
      generalize sg (Det a b c) * Det b c p = w0 at *
      generalize sg (Det a b c) * Det c a p = w1 at *
      generalize sg (Det a b c) * Det a b p = w2 at *
      generalize sg (Det a b c) * Det a b c = n at *
      generalize InV p a b c = iv at *
      have hx := sum_w d0 d1 d2 (by omega) (by omega) (by omega) hx
      have hy := sum_w d0 d1 d2 (by omega) (by omega) (by omega) hy
      rw [if_neg (by omega), if_neg (by rw [w64_id (n := w0 + w1) (by omega) (by omega), w64_id (by omega) (by omega)]; simp; omega)]
      simp only [hx, hy, beq_self_eq_true, if_true]
      have e2 : (iv == 2) = decide (0 < w2 ∧ 0 < w0 ∧ 0 < w1) := by
        rw [Bool.eq_iff_iff, beq_iff_eq, decide_eq_true_iff]; exact i2
      have e1 : decide (iv > 0) = decide (0 ≤ w2 ∧ 0 ≤ w0 ∧ 0 ≤ w1) := by
        rw [Bool.eq_iff_iff, decide_eq_true_iff, decide_eq_true_iff]; exact i1
      rw [e1, e2]
      by_cases g1 : 0 ≤ w0 <;> by_cases g2 : 0 ≤ w1 <;> by_cases g3 : 0 < w0 <;> by_cases g4 : 0 < w1 <;> simp [g1, g2, g3, g4]
    · rw [if_neg hr, if_neg hr]; rfl
  · rw [if_neg hp, if_neg hp]; rfl
end Go.Proofs.Ytpdhabfebpjihaa
