/- What is lifted, by weights. -/
import Derived.Test.YtfgdjlhilladhaaGreatPd
namespace Go.Proofs.YtfgdjlhilladhaaGreat
open Go Go.Ev Go.Proofs
theorem nlift_tm (x : (Int × Int) × (((Int × Int) × ((Int × Int) × (Int × Int))) × ((Int × (Int × Int)) × ((Int × (Int × Int)) × (Int × (Int × Int)))))) : nlift_pre x :=
  ⟨(small2_law _ (by simp)).1, fun _ => ⟨(small3_law _ (by simp)).1, fun _ => ⟨weights_tm _, fun _ => ⟨wfloor_tm _, wfloor_tm _, wfloor_tm _⟩⟩⟩⟩
/-- What is lifted: by weights. -/
def Lf (p a b c : Int × Int) (u v w : Int) : Int := (sg (Det a b c) * Det b c p * u + sg (Det a b c) * Det c a p * v + sg (Det a b c) * Det a b p * w) / (sg (Det a b c) * Det a b c)
theorem lf_floor {p a b c : Int × Int} {u v w : Int} (hp : Sm p) (hr : Right a b c) (hu : -16384 ≤ u ∧ u ≤ 16384) (hv : -16384 ≤ v ∧ v ≤ 16384) (hw : -16384 ≤ w ∧ w ≤ 16384) :
    floor (w64 (w64 (w64 (0 + w64 (sg (Det a b c) * Det b c p * u)) + w64 (sg (Det a b c) * Det c a p * v)) + w64 (sg (Det a b c) * Det a b p * w)), sg (Det a b c) * Det a b c) = Lf p a b c u v w := by
  obtain ⟨⟨ha, hb, hc⟩, hne⟩ := hr
  have hA := sg_self hne
  have d0 := (det_sg (s := Det a b c) (det_in hb hc hp)).2
  have d1 := (det_sg (s := Det a b c) (det_in hc ha hp)).2
  have d2 := (det_sg (s := Det a b c) (det_in ha hb hp)).2
  have d3 := (det_sg (s := Det a b c) (det_in ha hb hc)).2
  unfold Lf
  generalize sg (Det a b c) * Det b c p = w0 at *
  generalize sg (Det a b c) * Det c a p = w1 at *
  generalize sg (Det a b c) * Det a b p = w2 at *
  generalize sg (Det a b c) * Det a b c = n at *
  have m1 := mulb (a := w0) (b := u) (A := 134217728) (B := 16384) d0.1 d0.2 hu.1 hu.2
  have m2 := mulb (a := w1) (b := v) (A := 134217728) (B := 16384) d1.1 d1.2 hv.1 hv.2
  have m3 := mulb (a := w2) (b := w) (A := 134217728) (B := 16384) d2.1 d2.2 hw.1 hw.2
  rw [w64_id (n := w0 * u) (by omega) (by omega), w64_id (n := w1 * v) (by omega) (by omega), w64_id (n := w2 * w) (by omega) (by omega), Int.zero_add, w64_id (n := w0 * u) (by omega) (by omega), w64_id (n := w0 * u + w1 * v) (by omega) (by omega), w64_id (by omega) (by omega), floor_law (by omega) (by omega) (by omega) (by omega)]
theorem nlift_law (p a b c : Int × Int) (s t r : Int × (Int × Int)) : nlift (p, ((a, (b, c)), (s, (t, r)))) = if Sm p then (if Sm3 s ∧ Sm3 t ∧ Sm3 r then (if Right a b c then ((Lf p a b c s.1 t.1 r.1, (Lf p a b c s.2.1 t.2.1 r.2.1, Lf p a b c s.2.2 t.2.2 r.2.2)), 0) else ((0, (0, 0)), 1)) else ((0, (0, 0)), 5)) else ((0, (0, 0)), 5) := by
  unfold nlift
  dsimp only [letV]
  rw [small2_one, small3_three, weights_law]
  by_cases hp : Sm p
  · rw [decide_eq_true hp, if_neg (by decide), if_pos hp]
    by_cases hs : Sm3 s ∧ Sm3 t ∧ Sm3 r
    · rw [decide_eq_true hs, if_neg (by decide), if_pos hs, if_pos hp]
      by_cases hr : Right a b c
      · rw [if_pos hr, if_pos hr]
        dsimp only
        rw [if_neg (by decide), lf_floor hp hr hs.1.1 hs.2.1.1 hs.2.2.1, lf_floor hp hr hs.1.2.1 hs.2.1.2.1 hs.2.2.2.1, lf_floor hp hr hs.1.2.2 hs.2.1.2.2 hs.2.2.2.2]
      · rw [if_neg hr, if_neg hr]; rfl
    · rw [decide_eq_false hs, if_pos (by decide), if_pos hp, if_neg hs]
  · rw [decide_eq_false hp, if_pos (by decide), if_neg hp]
theorem det_same (a c : Int × Int) : Det a c a = 0 ∧ Det a c c = 0 ∧ Det a a c = 0 := by unfold Det; grind
theorem lf_a {a b c : Int × Int} (hne : Det a b c ≠ 0) (u v w : Int) : Lf a a b c u v w = u := by
  have hA := sg_self hne
  have e1 : Det b c a = Det a b c := det_turn a b c
  have e2 : Det c a a = 0 := (det_same c a).2.1
  have e3 : Det a b a = 0 := (det_same a b).1
  unfold Lf
  rw [e1, e2, e3, Int.mul_zero, Int.zero_mul, Int.zero_mul, Int.add_zero, Int.add_zero]
  exact Int.mul_ediv_cancel_left u (by omega)
theorem lf_b {a b c : Int × Int} (hne : Det a b c ≠ 0) (u v w : Int) : Lf b a b c u v w = v := by
  have hA := sg_self hne
  have e1 : Det b c b = 0 := (det_same b c).1
  have e2 : Det c a b = Det a b c := by rw [det_turn b c a, det_turn a b c]
  have e3 : Det a b b = 0 := (det_same a b).2.1
  unfold Lf
  rw [e1, e2, e3, Int.mul_zero, Int.zero_mul, Int.zero_mul, Int.zero_add, Int.add_zero]
  exact Int.mul_ediv_cancel_left v (by omega)
theorem lf_c {a b c : Int × Int} (hne : Det a b c ≠ 0) (u v w : Int) : Lf c a b c u v w = w := by
  have hA := sg_self hne
  have e1 : Det b c c = 0 := (det_same b c).2.1
  have e2 : Det c a c = 0 := (det_same c a).1
  unfold Lf
  rw [e1, e2, Int.mul_zero, Int.zero_mul, Int.zero_mul, Int.zero_add, Int.zero_add]
  exact Int.mul_ediv_cancel_left w (by omega)
theorem w_sum (p a b c : Int × Int) : sg (Det a b c) * Det b c p + sg (Det a b c) * Det c a p + sg (Det a b c) * Det a b p = sg (Det a b c) * Det a b c := by
  have := det_sum a b c p
  generalize Det a b c = A at *
  rw [← this]; grind
theorem lf_one {p a b c : Int × Int} (hne : Det a b c ≠ 0) (u : Int) : Lf p a b c u u u = u := by
  have hA := sg_self hne
  have hs := w_sum p a b c
  unfold Lf
  rw [← Int.add_mul, ← Int.add_mul, hs]
  exact Int.mul_ediv_cancel_left u (by omega)
theorem lf_in {p a b c : Int × Int} (hne : Det a b c ≠ 0) (hin : 0 < InV p a b c) (u v w : Int) : minI (minI u v) w ≤ Lf p a b c u v w ∧ Lf p a b c u v w ≤ maxI (maxI u v) w := by
  have hA := sg_self hne
  have hs := w_sum p a b c
  rw [inV_pos] at hin
  have t1 : Det b c a = Det a b c := det_turn a b c
  have t2 : Det c a b = Det a b c := by rw [det_turn b c a, t1]
  unfold Fd at hin
  rw [t1, t2] at hin
  unfold Lf
  generalize sg (Det a b c) * Det b c p = w0 at *
  generalize sg (Det a b c) * Det c a p = w1 at *
  generalize sg (Det a b c) * Det a b p = w2 at *
  generalize sg (Det a b c) * Det a b c = n at *
  have mn : minI (minI u v) w ≤ u ∧ minI (minI u v) w ≤ v ∧ minI (minI u v) w ≤ w := by unfold minI; split <;> split <;> omega
  have mx : u ≤ maxI (maxI u v) w ∧ v ≤ maxI (maxI u v) w ∧ w ≤ maxI (maxI u v) w := by unfold maxI; split <;> split <;> omega
  generalize minI (minI u v) w = lo at *
  generalize maxI (maxI u v) w = hi at *
  have l0 := Int.mul_le_mul_of_nonneg_left mn.1 hin.2.1
  have l1 := Int.mul_le_mul_of_nonneg_left mn.2.1 hin.2.2
  have l2 := Int.mul_le_mul_of_nonneg_left mn.2.2 hin.1
  have g0 := Int.mul_le_mul_of_nonneg_left mx.1 hin.2.1
  have g1 := Int.mul_le_mul_of_nonneg_left mx.2.1 hin.2.2
  have g2 := Int.mul_le_mul_of_nonneg_left mx.2.2 hin.1
  have e1 : lo * n = w0 * lo + w1 * lo + w2 * lo := by rw [← hs]; grind
  have e2 : hi * n = w0 * hi + w1 * hi + w2 * hi := by rw [← hs]; grind
  exact ⟨Int.le_ediv_of_mul_le hA (by omega), Int.ediv_le_of_le_mul hA (by omega)⟩
theorem lift_bad {p a b c : Int × Int} {s t r : Int × (Int × Int)} (h : ¬ (Sm p ∧ (Sm3 s ∧ Sm3 t ∧ Sm3 r) ∧ Right a b c)) : ∃ e : Int, e ≠ 0 ∧ nlift (p, ((a, (b, c)), (s, (t, r)))) = ((0, (0, 0)), e) := by
  rw [nlift_law]
  by_cases hp : Sm p
  · rw [if_pos hp]
    by_cases hs : Sm3 s ∧ Sm3 t ∧ Sm3 r
    · rw [if_pos hs, if_neg fun hr => h ⟨hp, hs, hr⟩]
      exact ⟨1, by decide, rfl⟩
    · rw [if_neg hs]
      exact ⟨5, by decide, rfl⟩
  · rw [if_neg hp]
    exact ⟨5, by decide, rfl⟩
theorem lift_good {p a b c : Int × Int} {s t r : Int × (Int × Int)} (hp : Sm p) (hs : Sm3 s ∧ Sm3 t ∧ Sm3 r) (hr : Right a b c) :
    nlift (p, ((a, (b, c)), (s, (t, r)))) = ((Lf p a b c s.1 t.1 r.1, (Lf p a b c s.2.1 t.2.1 r.2.1, Lf p a b c s.2.2 t.2.2 r.2.2)), 0) := by
  rw [nlift_law, if_pos hp, if_pos hs, if_pos hr]
end Go.Proofs.YtfgdjlhilladhaaGreat
