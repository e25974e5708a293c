/- NearDoes' function answers true, whatever its input. -/
import Derived.Test.YtpdhabfebpjihaaPl
import Derived.Test.YtpdhabfebpjihaaDe
namespace Go.Proofs.Ytpdhabfebpjihaa
open Go Go.Ev Go.Proofs
theorem does_tm (x : ((Int × Int) × ((Int × Int) × ((Int × Int) × (((Int × Int) × ((Int × Int) × (Int × Int))) × ((Int × (Int × Int)) × ((Int × (Int × Int)) × (Int × (Int × Int))))))))) : l11does_pre x :=
  ⟨(nedge_law _ _ _).1, (r11edge_law _ _ _).1, closest_tm _, (r11closest_law _ _ _ _).1, weights_tm _, (r11weights_law _ _ _ _).1, nlift_tm _, (r11lift_law _ _ _ _ _ _ _).1, neared_tm false⟩
theorem does_law (x : ((Int × Int) × ((Int × Int) × ((Int × Int) × (((Int × Int) × ((Int × Int) × (Int × Int))) × ((Int × (Int × Int)) × ((Int × (Int × Int)) × (Int × (Int × Int))))))))) : l11does x = true := by
  obtain ⟨p, u, v, ⟨a, b, c⟩, s, t, r⟩ := x
  have h1 : nedge (p, (u, v)) = r11edge (p, (u, v)) := by rw [(nedge_law p u v).2, (r11edge_law p u v).2]
  have h2 : closest (p, (a, (b, c))) = r11closest (p, (a, (b, c))) := by rw [closest_law, (r11closest_law p a b c).2]
  have h3 : weights (p, (a, (b, c))) = r11weights (p, (a, (b, c))) := by rw [weights_law, (r11weights_law p a b c).2]
  have h4 : nlift (p, ((a, (b, c)), (s, (t, r)))) = r11lift (p, ((a, (b, c)), (s, (t, r)))) := by rw [nlift_law, (r11lift_law p a b c s t r).2]
  unfold l11does
  dsimp only [letV]
  rw [h1, h2, h3, h4, neared_law]
  simp
end Go.Proofs.Ytpdhabfebpjihaa
