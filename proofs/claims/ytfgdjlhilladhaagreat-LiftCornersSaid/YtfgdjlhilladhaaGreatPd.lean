/- Plain laws: the program's functions of layer 11, and the document's rows. -/
import Derived.Test.YtfgdjlhilladhaaGreatPc
namespace Go.Proofs.YtfgdjlhilladhaaGreat
open Go Go.Ev Go.Proofs
def pick (u v : (Int × Int) × (Int × (Int × Int))) : (Int × Int) × (Int × (Int × Int)) := if sg (v.2.2.1 * u.2.2.2 - u.2.2.1 * v.2.2.2) < 0 then v else u
def Best (p a b c : Int × Int) : (Int × Int) × (Int × (Int × Int)) := pick (pick (Foot p a b) (Foot p b c)) (Foot p c a)
theorem closest_tm (x : (Int × Int) × ((Int × Int) × ((Int × Int) × (Int × Int)))) : closest_pre x :=
  ⟨mIn_tm _, fun _ _ => ⟨find_tm, find_tm, fto_tm _, fun _ => ⟨find_tm, fto_tm _⟩, fun _ => ⟨find_tm, fto_tm _⟩⟩⟩
theorem closest_law (p a b c : Int × Int) : closest (p, (a, (b, c))) = if Sm p then (if Right a b c then (if 0 < InV p a b c then (p, ((0, 1), 0)) else ((Best p a b c).1, ((Best p a b c).2.2, 0))) else ((0, 0), ((0, 0), 1))) else ((0, 0), ((0, 0), 5)) := by
  unfold closest
  rw [mIn_law]
  by_cases hp : Sm p
  · rw [if_pos hp, if_pos hp]
    by_cases hr : Right a b c
    · rw [if_pos hr, if_pos hr]
      dsimp only [letV]
      rw [if_neg (by decide)]
      by_cases hi : 0 < InV p a b c
      · rw [if_pos hi, if_pos hi]
      · rw [if_neg hi, if_neg hi, find_law hp hr.1.1 hr.1.2.1, find_law hp hr.1.2.1 hr.1.2.2, find_law hp hr.1.2.2 hr.1.1]
        have f1 := (foot_fr hp hr.1.1 hr.1.2.1).1
        have f2 := (foot_fr hp hr.1.2.1 hr.1.2.2).1
        have f3 := (foot_fr hp hr.1.2.2 hr.1.1).1
        rw [fcmp_law f2 f1, fcmp_law f3 f2, fcmp_law f3 f1]
        unfold Best pick
        split <;> split <;> rfl
    · rw [if_neg hr, if_neg hr]; rfl
  · rw [if_neg hp, if_neg hp]; rfl
theorem pick_le {u v : (Int × Int) × (Int × (Int × Int))} (hu : Fr u.2.2) (hv : Fr v.2.2) : Fr (pick u v).2.2 ∧ FLe (pick u v).2.2 u.2.2 ∧ FLe (pick u v).2.2 v.2.2 := by
  unfold pick
  by_cases h : sg (v.2.2.1 * u.2.2.2 - u.2.2.1 * v.2.2.2) < 0
  · rw [if_pos h]
    exact ⟨hv, sg_le.1 (by omega), FLe.refl _⟩
  · rw [if_neg h]
    exact ⟨hu, FLe.refl _, sg_lt h⟩
theorem best_le {p a b c : Int × Int} (hp : Sm p) (ha : Sm a) (hb : Sm b) (hc : Sm c) :
    Fr (Best p a b c).2.2 ∧ FLe (Best p a b c).2.2 (Foot p a b).2.2 ∧ FLe (Best p a b c).2.2 (Foot p b c).2.2 ∧ FLe (Best p a b c).2.2 (Foot p c a).2.2 := by
  have f1 := (foot_fr hp ha hb).1
  have f2 := (foot_fr hp hb hc).1
  have f3 := (foot_fr hp hc ha).1
  obtain ⟨h1, h2, h3⟩ := pick_le f1 f2
  obtain ⟨h4, h5, h6⟩ := pick_le h1 f3
  exact ⟨h4, h5.trans h2 (by show 0 < (Best p a b c).2.2.2; unfold Best; omega) (by omega) (by omega), h5.trans h3 (by show 0 < (Best p a b c).2.2.2; unfold Best; omega) (by omega) (by omega), h6⟩
theorem weights_tm (x : (Int × Int) × ((Int × Int) × ((Int × Int) × (Int × Int)))) : weights_pre x :=
  ⟨mIn_tm _, fun _ => ⟨(sarea_law _ _ _).1, (sarea_law _ _ _).1, (sarea_law _ _ _).1, (sarea_law _ _ _).1, (sarea_law _ _ _).1⟩⟩
theorem det_sg {n s : Int} (hn : -134217728 ≤ n ∧ n ≤ 134217728) : w64 (n * sg s) = sg s * n ∧ -134217728 ≤ sg s * n ∧ sg s * n ≤ 134217728 := by
  rcases sg_cases s with ⟨_, e⟩ | ⟨_, e⟩ | ⟨_, e⟩ <;> rw [e] <;> refine ⟨by rw [w64_id (by omega) (by omega)]; omega, by omega, by omega⟩
theorem weights_law (p a b c : Int × Int) : weights (p, (a, (b, c))) = if Sm p then (if Right a b c then ((sg (Det a b c) * Det b c p, (sg (Det a b c) * Det c a p, sg (Det a b c) * Det a b p)), (sg (Det a b c) * Det a b c, 0)) else ((0, (0, 0)), (0, 1))) else ((0, (0, 0)), (0, 5)) := by
  unfold weights
  rw [mIn_law]
  by_cases hp : Sm p
  · rw [if_pos hp, if_pos hp]
    by_cases hr : Right a b c
    · obtain ⟨⟨ha, hb, hc⟩, hne⟩ := hr
      rw [if_pos ⟨⟨ha, hb, hc⟩, hne⟩, if_pos ⟨⟨ha, hb, hc⟩, hne⟩]
      dsimp only [letV]
      rw [if_neg (by decide), (sarea_law a b c).2, if_pos ⟨ha, hb, hc⟩, sside_law, if_pos ⟨ha, hb, hc⟩, (sarea_law p b c).2, if_pos ⟨hp, hb, hc⟩, (sarea_law p c a).2, if_pos ⟨hp, hc, ha⟩, (sarea_law p a b).2, if_pos ⟨hp, ha, hb⟩]
      dsimp only [cond_false, cond_true]
      rw [(det_sg (s := Det a b c) (det_in hp hb hc)).1, (det_sg (s := Det a b c) (det_in hp hc ha)).1, (det_sg (s := Det a b c) (det_in hp ha hb)).1, (det_sg (s := Det a b c) (det_in ha hb hc)).1]
      rw [← det_turn p b c, ← det_turn p c a, ← det_turn p a b]
    · rw [if_neg hr, if_neg hr]; rfl
  · rw [if_neg hp, if_neg hp]; rfl
/-- No point of a triangle is nearer than what is closest. -/
theorem three_cross {x1 x2 x3 y1 y2 y3 : Int} (hs : 0 < x1 + x2 + x3) (h1 : 0 ≤ y1) (h2 : 0 ≤ y2) (h3 : 0 ≤ y3) (hx : x1 < 0 ∨ x2 < 0 ∨ x3 < 0) :
    (x1 < 0 ∧ 0 ≤ y1 * x2 - x1 * y2 ∧ 0 ≤ y1 * x3 - x1 * y3) ∨ (x2 < 0 ∧ 0 ≤ y2 * x3 - x2 * y3 ∧ 0 ≤ y2 * x1 - x2 * y1) ∨ (x3 < 0 ∧ 0 ≤ y3 * x1 - x3 * y1 ∧ 0 ≤ y3 * x2 - x3 * y2) := by
  have P : ∀ {x y u v : Int}, x < 0 → 0 ≤ y → 0 ≤ u → 0 ≤ v → 0 ≤ y * u - x * v := fun {x y u v} hx hy hu hv => by
    have a1 := Int.mul_nonneg hy hu
    have a2 := Int.mul_nonneg (show 0 ≤ -x by omega) hv
    have e : -x * v = -(x * v) := Int.neg_mul x v
    omega
  have T : ∀ (x y u v : Int), 0 ≤ y * u - x * v ∨ 0 ≤ v * x - u * y := fun x y u v => by
    have e1 : v * x = x * v := Int.mul_comm _ _
    have e2 : u * y = y * u := Int.mul_comm _ _
    omega
  by_cases n1 : x1 < 0
  · by_cases n2 : x2 < 0
    · rcases T x1 y1 x2 y2 with t | t
      · exact .inl ⟨n1, t, P n1 h1 (by omega) h3⟩
      · exact .inr (.inl ⟨n2, P n2 h2 (by omega) h3, t⟩)
    · by_cases n3 : x3 < 0
      · rcases T x1 y1 x3 y3 with t | t
        · exact .inl ⟨n1, P n1 h1 (by omega) h2, t⟩
        · exact .inr (.inr ⟨n3, t, P n3 h3 (by omega) h2⟩)
      · exact .inl ⟨n1, P n1 h1 (by omega) h2, P n1 h1 (by omega) h3⟩
  · by_cases n2 : x2 < 0
    · by_cases n3 : x3 < 0
      · rcases T x2 y2 x3 y3 with t | t
        · exact .inr (.inl ⟨n2, t, P n2 h2 (by omega) h1⟩)
        · exact .inr (.inr ⟨n3, P n3 h3 (by omega) h1, t⟩)
      · exact .inr (.inl ⟨n2, P n2 h2 (by omega) h3, P n2 h2 (by omega) h1⟩)
    · exact .inr (.inr ⟨by omega, P (by omega) h3 (by omega) h1, P (by omega) h3 (by omega) h2⟩)
theorem sg_self {n : Int} (h : n ≠ 0) : 0 < sg n * n := by
  rcases sg_cases n with ⟨h1, e⟩ | ⟨h1, e⟩ | ⟨h1, e⟩ <;> rw [e] <;> omega
theorem best_least {p q a b c : Int × Int} (hp : Sm p) (hr : Right a b c) (hout : ¬ 0 < InV p a b c) (hin : 0 < InV q a b c) : FLe (Best p a b c).2.2 (Sq p q, 1) := by
  obtain ⟨⟨ha, hb, hc⟩, hne⟩ := hr
  obtain ⟨h0, h1, h2, h3⟩ := best_le hp ha hb hc
  have f1 := (foot_fr hp ha hb).1
  have f2 := (foot_fr hp hb hc).1
  have f3 := (foot_fr hp hc ha).1
  rw [inV_pos] at hout hin
  have t1 : Det b c a = Det a b c := det_turn a b c
  have t2 : Det c a b = Det a b c := by rw [det_turn b c a, t1]
  unfold Fd at hout hin
  rw [t1, t2] at hout hin
  have hA := sg_self hne
  have hs := det_sum a b c p
  generalize hS : sg (Det a b c) = S at *
  have hs' : 0 < S * Det a b p + S * Det b c p + S * Det c a p := by
    have : S * Det a b p + S * Det b c p + S * Det c a p = S * Det a b c := by rw [← hs]; grind
    omega
  rcases three_cross hs' hin.1 hin.2.1 hin.2.2 (by omega) with ⟨g1, g2, g3⟩ | ⟨g1, g2, g3⟩ | ⟨g1, g2, g3⟩
  · exact h1.trans (cross_le hA g1 hin.1 g2 g3 (by omega)) (by omega) (by omega) (by simp)
  · exact h2.trans (cross_le (by rw [t1]; exact hA) g1 hin.2.1 g2 g3 (by omega)) (by omega) (by omega) (by simp)
  · exact h3.trans (cross_le (by rw [t2]; exact hA) g1 hin.2.2 g2 g3 (by omega)) (by omega) (by omega) (by simp)
end Go.Proofs.YtfgdjlhilladhaaGreat
