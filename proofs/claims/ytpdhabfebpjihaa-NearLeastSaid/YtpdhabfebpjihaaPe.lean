/- NearLeast's function answers true, whatever its input. -/
import Derived.Test.YtpdhabfebpjihaaPd
import Derived.Test.YtpdhabfebpjihaaDga
namespace Go.Proofs.Ytpdhabfebpjihaa
open Go Go.Ev Go.Proofs
theorem least_tm (x : (Int × Int) × ((Int × Int) × ((Int × Int) × ((Int × Int) × (Int × Int))))) : l11least_pre x :=
  ⟨closest_tm _, fun _ => ⟨neared_tm _, fun _ => ⟨(small2_law _ (by simp)).1, fun _ => (sarea_law _ _ _).1⟩⟩, fun _ => ⟨fto_tm _, fun _ => ⟨fto_tm _, fun _ => ⟨fto_tm _, fun _ => ⟨mIn_tm _, fun _ => neared_tm _, fun _ => ⟨fun _ => neared_tm _, fun _ => ⟨neared_tm _, fun _ => fto_tm _⟩⟩⟩⟩⟩⟩⟩
theorem not_gt {u v : Int × Int} (hu : Fr u) (hv : Fr v) (h : FLe u v) : fcmp (u, v) ≤ 0 := by
  rw [fcmp_law hu hv]; exact sg_le.2 h
theorem sq_fr {p a : Int × Int} (hp : Sm p) (ha : Sm a) : Fr (Sq p a, 1) := by
  have := sq_in hp ha
  dsimp only [Fr]; omega
theorem closest_good {p q a b c : Int × Int} (hp : Sm p) (hr : Right a b c) : ∃ (z d : Int × Int), closest (p, (a, (b, c))) = (z, (d, 0)) ∧ Fr d ∧ FLe d (Sq p a, 1) ∧ FLe d (Sq p b, 1) ∧ FLe d (Sq p c, 1) ∧ (Sm q → 0 < InV q a b c → FLe d (Sq p q, 1)) := by
  obtain ⟨⟨ha, hb, hc⟩, hne⟩ := id hr
  rw [closest_law, if_pos hp, if_pos hr]
  by_cases hi : 0 < InV p a b c
  · rw [if_pos hi]
    refine ⟨p, (0, 1), rfl, by dsimp only [Fr]; omega, ?_, ?_, ?_, fun hq _ => ?_⟩
    · have := sq_in hp ha; unfold FLe; dsimp only; omega
    · have := sq_in hp hb; unfold FLe; dsimp only; omega
    · have := sq_in hp hc; unfold FLe; dsimp only; omega
    · have := sq_in hp hq; unfold FLe; dsimp only; omega
  · rw [if_neg hi]
    obtain ⟨g0, g1, g2, g3⟩ := best_le hp ha hb hc
    have f1 := (foot_fr hp ha hb).1
    have f2 := (foot_fr hp hb hc).1
    have f3 := (foot_fr hp hc ha).1
    exact ⟨_, _, rfl, g0, g1.trans (foot_ends p a b).1 (by omega) (by omega) (by simp), g1.trans (foot_ends p a b).2 (by omega) (by omega) (by simp), g2.trans (foot_ends p b c).2 (by omega) (by omega) (by simp), fun hq h => best_least hp hr hi h⟩
theorem least_law (x : (Int × Int) × ((Int × Int) × ((Int × Int) × ((Int × Int) × (Int × Int))))) : l11least x = true := by
  obtain ⟨p, q, a, b, c⟩ := x
  unfold l11least
  dsimp only
  by_cases hp : Sm p
  · by_cases hr : Right a b c
    · obtain ⟨⟨ha, hb, hc⟩, hne⟩ := id hr
      obtain ⟨z, d, e, h0, h1, h2, h3, h4⟩ := closest_good (q := q) hp hr
      rw [e, mIn_law, neared_law]
      dsimp only [letV]
      rw [if_neg (by decide), lsquare_law hp ha, lsquare_law hp hb, lsquare_law hp hc]
      rw [if_neg (by have := not_gt h0 (sq_fr hp ha) h1; omega), if_neg (by have := not_gt h0 (sq_fr hp hb) h2; omega), if_neg (by have := not_gt h0 (sq_fr hp hc) h3; omega)]
      by_cases hq : Sm q
      · rw [if_pos hq, if_pos hr]
        dsimp only
        rw [if_neg (by decide)]
        by_cases hi : InV q a b c = 0
        · rw [if_pos (by simpa using hi)]; rfl
        · have hi2 := inV_in q a b c
          rw [if_neg (by simpa using hi), if_pos rfl, lsquare_law hp hq]
          exact decide_eq_true (not_gt h0 (sq_fr hp hq) (h4 hq (by omega)))
      · rw [if_neg hq]; rfl
    · rw [closest_law, mIn_law, neared_law, small2_one, mright_law, if_pos hp, if_neg hr, decide_eq_true hp, decide_eq_false hr]; rfl
  · rw [closest_law, mIn_law, neared_law, small2_one, if_neg hp, decide_eq_false hp]; rfl
end Go.Proofs.Ytpdhabfebpjihaa
