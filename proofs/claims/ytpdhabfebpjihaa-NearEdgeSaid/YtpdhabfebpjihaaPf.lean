/- NearEdge's function answers true, whatever its input. -/
import Derived.Test.YtpdhabfebpjihaaPd
import Derived.Test.YtpdhabfebpjihaaDgb
namespace Go.Proofs.Ytpdhabfebpjihaa
open Go Go.Ev Go.Proofs
theorem edge_tm (x : (Int × Int) × ((Int × Int) × (Int × Int))) : l11edge_pre x :=
  ⟨(nedge_law _ _ _).1, fun _ => ⟨neared_tm _, fun _ => (small2_law _ (by simp)).1⟩, fun _ => ⟨(nedge_law _ _ _).1, fun _ => ⟨fto_tm _, fun _ _ _ => ⟨fto_tm _, fun _ => ⟨fto_tm _, fun _ _ _ _ _ => neared_tm _⟩⟩⟩⟩⟩
theorem not_gt' {u v : Int × Int} (hu : Fr u) (hv : Fr v) (h : FLe u v) : ¬ fcmp (u, v) > 0 := by
  rw [fcmp_law hu hv]
  have := sg_le.2 h
  omega
theorem sq_fr' {p a : Int × Int} (hp : Sm p) (ha : Sm a) : Fr (Sq p a, 1) := by
  have := sq_in hp ha
  dsimp only [Fr]; omega
theorem edge_go {p a b z z' : Int × Int} {k l N D N' D' : Int} (hp : Sm p) (ha : Sm a) (hb : Sm b) (hF : nedge (p, (a, b)) = (z, (k, ((N, D), 0)))) (hG : nedge (p, (b, a)) = (z', (l, ((N', D'), 0))))
    (h0 : Fr (N, D)) (h0' : Fr (N', D')) (hN : 0 ≤ N) (hc : N' * D = N * D') (h1 : FLe (N, D) (Sq p a, 1)) (h2 : FLe (N, D) (Sq p b, 1))
    (b1 : minI a.1 b.1 ≤ z.1) (b2 : z.1 ≤ maxI a.1 b.1) (b3 : minI a.2 b.2 ≤ z.2) (b4 : z.2 ≤ maxI a.2 b.2)
    (h5 : (k = 0 ∧ l ≠ 2 ∧ z = a ∧ N = Sq p a ∧ D = 1) ∨ (k = 1 ∧ l ≠ 2 ∧ z = b ∧ D = 1) ∨ (k = 2 ∧ l = 2)) : l11edge (p, (a, b)) = true := by
  unfold l11edge
  dsimp only
  rw [hF, hG, neared_law]
  dsimp only [letV]
  rw [if_neg (by decide), if_neg (by decide), fcmp_law h0' h0, if_neg (by dsimp only; rw [hc, Int.sub_self]; decide), if_neg (by omega), if_neg (by omega), lsquare_law hp ha, lsquare_law hp hb,
    if_neg (not_gt' h0 (sq_fr' hp ha) h1), if_neg (not_gt' h0 (sq_fr' hp hb) h2), if_neg (by omega), if_neg (by omega), if_neg (by omega), if_neg (by omega), if_pos rfl]
  rcases h5 with ⟨rfl, hl, rfl, rfl, rfl⟩ | ⟨rfl, hl, rfl, rfl⟩ | ⟨rfl, rfl⟩
  · simp [hl]
  · simp [hl]
  · simp
theorem dot_back (p a b : Int × Int) : Dot p b a = Sq b a - Dot p a b := by unfold Dot Sq; grind
theorem sq_back (a b : Int × Int) : Sq a b = Sq b a := by unfold Sq; grind
theorem sq_other (p a b : Int × Int) : Sq p b = Sq p a - 2 * Dot p a b + Sq b a := by unfold Sq Dot; grind
theorem edge_law (x : (Int × Int) × ((Int × Int) × (Int × Int))) : l11edge x = true := by
  obtain ⟨p, a, b⟩ := x
  by_cases h : Sm p ∧ Sm a ∧ Sm b
  · obtain ⟨hp, ha, hb⟩ := h
    have hF := (nedge_law p a b).2
    have hG := (nedge_law p b a).2
    rw [if_pos ⟨hp, ha, hb⟩] at hF
    rw [if_pos ⟨hp, hb, ha⟩] at hG
    have f1 := foot_fr hp ha hb
    have f2 := foot_fr hp hb ha
    have fe := foot_ends p a b
    have hm := dot_back p a b
    have hn := sq_back a b
    have hq := sq_other p a b
    have sn := sq_in hb ha
    have hz : Sq b a = 0 → Dot p a b = 0 := by
      intro h
      have s1 := sq_nonneg (b.1 - a.1)
      have s2 := sq_nonneg (b.2 - a.2)
      unfold Sq at h
      have z1 : b.1 - a.1 = 0 := by
        have : (b.1 - a.1) * (b.1 - a.1) = 0 := by omega
        rcases Int.mul_eq_zero.1 this with h | h <;> exact h
      have z2 : b.2 - a.2 = 0 := by
        have : (b.2 - a.2) * (b.2 - a.2) = 0 := by omega
        rcases Int.mul_eq_zero.1 this with h | h <;> exact h
      unfold Dot
      rw [z1, z2]; simp
    have mn1 : minI a.1 b.1 ≤ a.1 ∧ minI a.1 b.1 ≤ b.1 ∧ a.1 ≤ maxI a.1 b.1 ∧ b.1 ≤ maxI a.1 b.1 := by unfold minI maxI; split <;> split <;> omega
    have mn2 : minI a.2 b.2 ≤ a.2 ∧ minI a.2 b.2 ≤ b.2 ∧ a.2 ≤ maxI a.2 b.2 ∧ b.2 ≤ maxI a.2 b.2 := by unfold minI maxI; split <;> split <;> omega
    by_cases h1 : Dot p a b ≤ 0 ∨ Sq b a = 0
    · have eF : Foot p a b = (a, (0, (Sq p a, 1))) := by unfold Foot; rw [if_pos h1]
      rw [eF] at hF f1 fe
      by_cases h2 : Sq b a = 0
      · have eG : Foot p b a = (b, (0, (Sq p b, 1))) := by unfold Foot; rw [if_pos (.inr (by rw [hn]; exact h2))]
        rw [eG] at hG f2
        dsimp only at hF hG f1 f2 fe
        exact edge_go hp ha hb hF hG f1.1 f2.1 f1.2 (by have := hz h2; omega) fe.1 fe.2 (by omega) (by omega) (by omega) (by omega) (.inl ⟨rfl, by decide, rfl, rfl, rfl⟩)
      · have eG : Foot p b a = (a, (1, (Sq p a, 1))) := by unfold Foot; rw [if_neg (by omega), if_pos (by omega)]
        rw [eG] at hG f2
        dsimp only at hF hG f1 f2 fe
        exact edge_go hp ha hb hF hG f1.1 f2.1 f1.2 (by omega) fe.1 fe.2 (by omega) (by omega) (by omega) (by omega) (.inl ⟨rfl, by decide, rfl, rfl, rfl⟩)
    · by_cases h2 : Sq b a ≤ Dot p a b
      · have eF : Foot p a b = (b, (1, (Sq p b, 1))) := by unfold Foot; rw [if_neg h1, if_pos h2]
        have eG : Foot p b a = (b, (0, (Sq p b, 1))) := by unfold Foot; rw [if_pos (.inl (by omega))]
        rw [eF] at hF f1 fe
        rw [eG] at hG f2
        dsimp only at hF hG f1 f2 fe
        exact edge_go hp ha hb hF hG f1.1 f2.1 f1.2 (by omega) fe.1 fe.2 (by omega) (by omega) (by omega) (by omega) (.inr (.inl ⟨rfl, by decide, rfl, rfl⟩))
      · have eF : Foot p a b = ((a.1 + (b.1 - a.1) * Dot p a b / Sq b a, a.2 + (b.2 - a.2) * Dot p a b / Sq b a), (2, (Det a b p * Det a b p, Sq b a))) := by unfold Foot; rw [if_neg h1, if_neg h2]
        have eG : Foot p b a = ((b.1 + (a.1 - b.1) * Dot p b a / Sq a b, b.2 + (a.2 - b.2) * Dot p b a / Sq a b), (2, (Det b a p * Det b a p, Sq a b))) := by unfold Foot; rw [if_neg (by omega), if_neg (by omega)]
        rw [eF] at hF f1 fe
        rw [eG] at hG f2
        dsimp only at hF hG f1 f2 fe
        have q1 := part_in (d := b.1 - a.1) (show 0 < Dot p a b by omega) (show Dot p a b < Sq b a by omega)
        have q2 := part_in (d := b.2 - a.2) (show 0 < Dot p a b by omega) (show Dot p a b < Sq b a by omega)
        refine edge_go hp ha hb hF hG f1.1 f2.1 f1.2 ?_ fe.1 fe.2 ?_ ?_ ?_ ?_ (.inr (.inr ⟨rfl, rfl⟩))
        · rw [det_flip a b p, hn, Int.neg_mul_neg]
        all_goals dsimp only
        · rcases Int.le_total 0 (b.1 - a.1) with h | h <;> omega
        · rcases Int.le_total 0 (b.1 - a.1) with h | h <;> omega
        · rcases Int.le_total 0 (b.2 - a.2) with h | h <;> omega
        · rcases Int.le_total 0 (b.2 - a.2) with h | h <;> omega
  · unfold l11edge
    dsimp only
    rw [(nedge_law p a b).2, if_neg h, neared_law, small2_three, decide_eq_false h]
    rfl
end Go.Proofs.Ytpdhabfebpjihaa
