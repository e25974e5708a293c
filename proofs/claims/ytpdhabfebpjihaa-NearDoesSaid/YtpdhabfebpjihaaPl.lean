/- Plain laws: the document's answers for layers 9 to 11 are the program's. -/
import Derived.Test.YtpdhabfebpjihaaDd
import Derived.Test.YtpdhabfebpjihaaPk
import Derived.Test.YtpdhabfebpjihaaPd
import Derived.Test.YtpdhabfebpjihaaPh
namespace Go.Proofs.Ytpdhabfebpjihaa
open Go Go.Ev Go.Proofs
theorem r9small2_law (p : Int × Int) : r9small2 p = decide (Sm p) := by
  unfold r9small2
  rw [Bool.eq_iff_iff, decide_eq_true_iff]
  split <;> (try split) <;> (try split) <;> simp <;> omega
theorem r9small3_law (p : Int × (Int × Int)) : r9small3 p = decide (Sm3 p) := by
  unfold r9small3
  rw [Bool.eq_iff_iff, decide_eq_true_iff]
  split <;> (try split) <;> (try split) <;> (try split) <;> (try split) <;> simp <;> omega
theorem r4is2_law (p : Int × Int) : r4is2 p = decide (Is20 p) := by
  unfold r4is2 r4near
  dsimp only [letV]
  rw [Bool.eq_iff_iff, decide_eq_true_iff]
  by_cases h1 : p.1 ≥ -1048576 <;> by_cases h2 : p.1 ≤ 1048576 <;> by_cases h3 : p.2 ≥ -1048576 <;> simp [h1, h2, h3] <;> omega
theorem r4sub2_law {a b : Int × Int} (ha : Sm a) (hb : Sm b) : r4sub2 (a, b) = (a.1 - b.1, a.2 - b.2) := by
  unfold r4sub2
  dsimp only [letV]
  rw [r4is2_law, r4is2_law, decide_eq_true (by omega), decide_eq_true (by omega), if_neg (by decide), if_neg (by decide), w64_id (by omega) (by omega), w64_id (by omega) (by omega)]
theorem r4cross2_law {a b c : Int × Int} (ha : Sm a) (hb : Sm b) (hc : Sm c) : r4cross2 ((b.1 - a.1, b.2 - a.2), (c.1 - a.1, c.2 - a.2)) = (Det a b c, 0) := by
  have m1 := mulb (a := b.1 - a.1) (b := c.2 - a.2) (A := 8192) (B := 8192) (by omega) (by omega) (by omega) (by omega)
  have m2 := mulb (a := b.2 - a.2) (b := c.1 - a.1) (A := 8192) (B := 8192) (by omega) (by omega) (by omega) (by omega)
  unfold r4cross2
  dsimp only [letV]
  rw [r4is2_law, r4is2_law, decide_eq_true (by dsimp only [Is20]; omega), decide_eq_true (by dsimp only [Is20]; omega), if_neg (by decide), if_neg (by decide), w64_id (n := (b.1 - a.1) * (c.2 - a.2)) (by omega) (by omega), w64_id (n := (b.2 - a.2) * (c.1 - a.1)) (by omega) (by omega), w64_id (by omega) (by omega)]
  rfl
theorem r9area_law (a b c : Int × Int) : r9area (a, (b, c)) = if Sm a ∧ Sm b ∧ Sm c then (Det a b c, 0) else (0, 5) := by
  unfold r9area
  dsimp only [letV]
  rw [r9small2_law, r9small2_law, r9small2_law]
  by_cases ha : Sm a
  · rw [decide_eq_true ha, if_neg (by decide)]
    by_cases hb : Sm b
    · rw [decide_eq_true hb, if_neg (by decide)]
      by_cases hc : Sm c
      · rw [decide_eq_true hc, if_neg (by decide), if_pos ⟨ha, hb, hc⟩, r4sub2_law hb ha, r4sub2_law hc ha, r4cross2_law ha hb hc]
      · rw [decide_eq_false hc, if_pos (by decide), if_neg (fun h => hc h.2.2)]
    · rw [decide_eq_false hb, if_pos (by decide), if_neg (fun h => hb h.2.1)]
  · rw [decide_eq_false ha, if_pos (by decide), if_neg (fun h => ha h.1)]
theorem r9area_go {a b c : Int × Int} (ha : Sm a) (hb : Sm b) (hc : Sm c) : r9area (a, (b, c)) = (Det a b c, 0) := by
  rw [r9area_law]
  exact if_pos ⟨ha, hb, hc⟩
theorem r9side_law (a b c : Int × Int) : r9side (a, (b, c)) = if Sm a ∧ Sm b ∧ Sm c then (sg (Det a b c), 0) else (0, 5) := by
  unfold r9side
  rw [r9area_law]
  have h1 : ∀ n, r9side1 n = sg n := fun n => rfl
  dsimp only [letV]
  rw [h1]
  split
  · rfl
  · rfl
theorem r10right_law (a b c : Int × Int) : r10right (a, (b, c)) = decide (Right a b c) := by
  unfold r10right
  rw [r9area_law]
  dsimp only [letV]
  by_cases h : Sm a ∧ Sm b ∧ Sm c
  · rw [if_pos h, if_pos (by rfl), Bool.eq_iff_iff, decide_eq_true_iff]
    simp only [bne_iff_ne, ne_eq]
    exact ⟨fun h2 => ⟨h, h2⟩, fun h2 => h2.2⟩
  · rw [if_neg h, decide_eq_false (fun h2 => h h2.1)]
    rfl
theorem sides_of {a b c p : Int × Int} (hp : Sm p) (ha : Sm a) (hb : Sm b) (hc : Sm c) : w64 ((r9side (a, (b, c))).1 * (r9side (a, (b, p))).1) = Sd a b c p := by
  rw [r9side_law, if_pos ⟨ha, hb, hc⟩, r9side_law, if_pos ⟨ha, hb, hp⟩]
  have := sd_in a b c p
  unfold Sd at this ⊢
  dsimp only
  rw [w64_id (by omega) (by omega)]
theorem sides0 (a b c p : Int × Int) : r10sides_pre ((a, (b, c)), ((0 : Int), p)) ∧ r10sides ((a, (b, c)), ((0 : Int), p)) = w64 ((r9side (a, (b, c))).1 * (r9side (a, (b, p))).1) := by
  refine ⟨?_, by rfl⟩
  unfold r10sides_pre letP
  dsimp only
  exact ⟨by decide, by decide, by decide, by decide, by decide, by decide, by decide, by decide, by decide, by decide⟩
theorem sides1 (a b c p : Int × Int) : r10sides_pre ((a, (b, c)), ((1 : Int), p)) ∧ r10sides ((a, (b, c)), ((1 : Int), p)) = w64 ((r9side (b, (c, a))).1 * (r9side (b, (c, p))).1) := by
  refine ⟨?_, by rfl⟩
  unfold r10sides_pre letP
  dsimp only
  exact ⟨by decide, by decide, by decide, by decide, by decide, by decide, by decide, by decide, by decide, by decide⟩
theorem sides2 (a b c p : Int × Int) : r10sides_pre ((a, (b, c)), ((2 : Int), p)) ∧ r10sides ((a, (b, c)), ((2 : Int), p)) = w64 ((r9side (c, (a, b))).1 * (r9side (c, (a, p))).1) := by
  refine ⟨?_, by rfl⟩
  unfold r10sides_pre letP
  dsimp only
  exact ⟨by decide, by decide, by decide, by decide, by decide, by decide, by decide, by decide, by decide, by decide⟩
theorem r10in_law (p a b c : Int × Int) : r10in_pre (p, (a, (b, c))) ∧ r10in (p, (a, (b, c))) = if Sm p then (if Right a b c then (InV p a b c, 0) else (0, 1)) else (0, 5) := by
  refine ⟨?_, ?_⟩
  · unfold r10in_pre letP
    exact fun _ _ => ⟨(sides0 a b c p).1, (sides1 a b c p).1, (sides2 a b c p).1⟩
  · unfold r10in
    dsimp only [letV]
    rw [r9small2_law, r10right_law]
    by_cases hp : Sm p
    · rw [decide_eq_true hp, if_neg (by decide), if_pos hp]
      by_cases hr : Right a b c
      · obtain ⟨⟨ha, hb, hc⟩, hne⟩ := id hr
        rw [decide_eq_true hr, if_neg (by decide), if_pos hr, (sides0 a b c p).2, (sides1 a b c p).2, (sides2 a b c p).2, sides_of hp ha hb hc, sides_of hp hb hc ha, sides_of hp hc ha hb]
        have h1 := sd_in a b c p
        have h2 := sd_in b c a p
        have h3 := sd_in c a b p
        rw [w64_id (by unfold minI; split <;> split <;> split <;> omega) (by unfold minI; split <;> split <;> split <;> omega)]
        rfl
      · rw [decide_eq_false hr, if_pos (by decide), if_neg hr]
    · rw [decide_eq_false hp, if_pos (by decide), if_neg hp]
/-! ### Rounded down -/
theorem r2floor_tm (x : Int × Int) : r2floor_pre x := fun h => ⟨fun _ _ => by
    have h0 : x.2 ≠ 0 := by simpa using h
    exact ⟨h0, h0⟩, fun _ => by
    have h0 : x.2 ≠ 0 := by simpa using h
    exact ⟨h0, h0⟩⟩
theorem r11down_law {a b : Int} (h1 : -9223372036854775808 ≤ a) (h2 : a ≤ 9223372036854775807) (hb : 0 < b) (hb2 : b ≤ 9223372036854775807) : r11down (a, b) = a / b := by
  have h3 := Int.emod_nonneg a (show b ≠ 0 by omega)
  have h4 := Int.emod_lt_of_pos a hb
  have h6 := Int.mul_ediv_add_emod a b
  have h5 : -9223372036854775808 ≤ a / b ∧ a / b ≤ 9223372036854775807 := by
    by_cases ha : 0 ≤ a
    · have := Int.ediv_nonneg ha (show 0 ≤ b by omega)
      have := Int.ediv_le_self b ha
      omega
    · have hq := Int.ediv_neg_of_neg_of_pos (show a < 0 by omega) hb
      have e := Int.mul_nonneg (show 0 ≤ b - 1 by omega) (show 0 ≤ -(a / b) - 1 by omega)
      have e' : (b - 1) * (-(a / b) - 1) = -(b * (a / b)) - b + a / b + 1 := by grind
      omega
  obtain ⟨t1, t2⟩ := tdm (a := a) hb
  have core : (if ((Int.tmod a b) != (0 : Int)) = true then (if ((!((decide ((Int.tmod a b) < (0 : Int))) == (decide (b < (0 : Int))))) = true) then ((w64 ((w64 (Int.tdiv a b)) - (1 : Int))), ((w64 ((Int.tmod a b) + b)), (0 : Int))) else ((w64 (Int.tdiv a b)), ((Int.tmod a b), (0 : Int)))) else ((w64 (Int.tdiv a b)), ((Int.tmod a b), (0 : Int)))) = (a / b, (a % b, 0)) := by
    by_cases hc : a.tmod b ≠ 0 ∧ a < 0
    · obtain ⟨e1, e2⟩ := t1 hc
      have hn : a / b < 0 := Int.ediv_neg_of_neg_of_pos hc.2 hb
      rw [if_pos (by simpa using hc.1), if_pos (by rw [e2]; simp; omega), e1, e2, w64_id (n := a / b + 1) (by omega) (by omega), w64_id (by omega) (by omega), w64_id (by omega) (by omega)]
      congr 1
      · omega
      · congr 1; omega
    · obtain ⟨e1, e2⟩ := t2 hc
      rw [e1, e2, w64_id (n := a / b) (by omega) (by omega)]
      split
      · rw [if_neg (by simp; omega)]
      · rfl
  unfold r11down r2floor
  dsimp only [letV]
  rw [if_neg (by simp; omega), core]
  split
  · rw [if_neg (by simp; omega)]
  · rfl
theorem r11square_law {p a : Int × Int} (hp : Sm p) (ha : Sm a) : r11square (p, a) = Sq p a := lsquare_law hp ha
theorem r11edge_law (p a b : Int × Int) : r11edge_pre (p, (a, b)) ∧ r11edge (p, (a, b)) = if Sm p ∧ Sm a ∧ Sm b then ((Foot p a b).1, ((Foot p a b).2.1, ((Foot p a b).2.2, 0))) else ((0, 0), (0, ((0, 0), 5))) := by
  refine ⟨?_, ?_⟩
  · unfold r11edge_pre letP
    exact fun _ _ _ _ _ _ => ⟨r2floor_tm _, r2floor_tm _⟩
  unfold r11edge
  dsimp only [letV]
  rw [r9small2_law, r9small2_law, r9small2_law]
  by_cases hp : Sm p
  · rw [decide_eq_true hp, if_neg (by decide)]
    by_cases ha : Sm a
    · rw [decide_eq_true ha, if_neg (by decide)]
      by_cases hb : Sm b
      · rw [decide_eq_true hb, if_neg (by decide), if_pos (show Sm p ∧ Sm a ∧ Sm b from ⟨hp, ha, hb⟩)]
        have hd := dot_in hp ha hb
        have hs := sq_in hb ha
        have m1 := mulb (a := p.1 - a.1) (b := b.1 - a.1) (A := 8192) (B := 8192) (by omega) (by omega) (by omega) (by omega)
        have m2 := mulb (a := p.2 - a.2) (b := b.2 - a.2) (A := 8192) (B := 8192) (by omega) (by omega) (by omega) (by omega)
        have eD : w64 (w64 (w64 (p.1 - a.1) * w64 (b.1 - a.1)) + w64 (w64 (p.2 - a.2) * w64 (b.2 - a.2))) = Dot p a b := by
          rw [w64_id (n := p.1 - a.1) (by omega) (by omega), w64_id (n := b.1 - a.1) (by omega) (by omega), w64_id (n := p.2 - a.2) (by omega) (by omega), w64_id (n := b.2 - a.2) (by omega) (by omega), w64_id (n := (p.1 - a.1) * (b.1 - a.1)) (by omega) (by omega), w64_id (n := (p.2 - a.2) * (b.2 - a.2)) (by omega) (by omega), w64_id (by omega) (by omega)]
          rfl
        have eS : r11square (a, b) = Sq b a := by rw [r11square_law ha hb]; unfold Sq; grind
        have eA : r9area (a, (b, p)) = (Det a b p, 0) := r9area_go ha hb hp
        rw [eD, eS, r11square_law hp ha, r11square_law hp hb, eA]
        unfold Foot
        by_cases h1 : Dot p a b ≤ 0
        · rw [if_pos h1, if_pos (.inl h1)]
        · by_cases h2 : Sq b a = 0
          · rw [if_neg h1, if_pos (by simpa using h2), if_pos (.inr h2)]
          · rw [if_neg h1, if_neg (by simpa using h2), if_neg (c := Dot p a b ≤ 0 ∨ Sq b a = 0) (by omega)]
            by_cases h3 : Sq b a ≤ Dot p a b
            · rw [if_pos h3, if_pos h3]
            · rw [if_neg h3, if_neg h3]
              have n1 := mulb (a := b.1 - a.1) (b := Dot p a b) (A := 8192) (B := 134217728) (by omega) (by omega) (by omega) (by omega)
              have n2 := mulb (a := b.2 - a.2) (b := Dot p a b) (A := 8192) (B := 134217728) (by omega) (by omega) (by omega) (by omega)
              have n3 := mulb (a := a.1) (b := Sq b a) (A := 4096) (B := 134217728) (by omega) (by omega) (by omega) (by omega)
              have n4 := mulb (a := a.2) (b := Sq b a) (A := 4096) (B := 134217728) (by omega) (by omega) (by omega) (by omega)
              have dt := det_in ha hb hp
              have m3 := mulb (a := Det a b p) (b := Det a b p) (A := 134217728) (B := 134217728) (by omega) (by omega) (by omega) (by omega)
              rw [w64_id (n := b.1 - a.1) (by omega) (by omega), w64_id (n := b.2 - a.2) (by omega) (by omega), w64_id (n := (b.1 - a.1) * Dot p a b) (by omega) (by omega), w64_id (n := (b.2 - a.2) * Dot p a b) (by omega) (by omega),
                w64_id (n := a.1 * Sq b a) (by omega) (by omega), w64_id (n := a.2 * Sq b a) (by omega) (by omega), w64_id (n := a.1 * Sq b a + _) (by omega) (by omega), w64_id (n := a.2 * Sq b a + _) (by omega) (by omega),
                r11down_law (by omega) (by omega) (by omega) (by omega), r11down_law (by omega) (by omega) (by omega) (by omega)]
              dsimp only
              rw [w64_id (by omega) (by omega), Int.add_comm (a.1 * Sq b a), Int.add_comm (a.2 * Sq b a), Int.add_mul_ediv_right _ _ h2, Int.add_mul_ediv_right _ _ h2, Int.add_comm _ a.1, Int.add_comm _ a.2]
      · rw [decide_eq_false hb, if_pos (by decide), if_neg (fun h => hb h.2.2)]
    · rw [decide_eq_false ha, if_pos (by decide), if_neg (fun h => ha h.2.1)]
  · rw [decide_eq_false hp, if_pos (by decide), if_neg (fun h => hp h.1)]
theorem r11weights_law (p a b c : Int × Int) : r11weights_pre (p, (a, (b, c))) ∧ r11weights (p, (a, (b, c))) = if Sm p then (if Right a b c then ((sg (Det a b c) * Det b c p, (sg (Det a b c) * Det c a p, sg (Det a b c) * Det a b p)), (sg (Det a b c) * Det a b c, 0)) else ((0, (0, 0)), (0, 1))) else ((0, (0, 0)), (0, 5)) := by
  refine ⟨(r10in_law p a b c).1, ?_⟩
  unfold r11weights
  rw [(r10in_law p a b c).2]
  by_cases hp : Sm p
  · rw [if_pos hp, if_pos hp]
    by_cases hr : Right a b c
    · obtain ⟨⟨ha, hb, hc⟩, hne⟩ := id hr
      rw [if_pos hr, if_pos hr]
      dsimp only [letV]
      rw [if_neg (by decide), r9area_go ha hb hc, r9area_go hp hb hc, r9area_go hp hc ha, r9area_go hp ha hb, ← det_turn p b c, ← det_turn p c a, ← det_turn p a b]
      have d0 := det_in hb hc hp
      have d1 := det_in hc ha hp
      have d2 := det_in ha hb hp
      have d3 := det_in ha hb hc
      dsimp only
      rcases sg_cases (Det a b c) with ⟨h, e⟩ | ⟨h, e⟩ | ⟨h, e⟩
      · rw [if_pos h, e]
        rw [w64_id (by omega) (by omega), w64_id (by omega) (by omega), w64_id (by omega) (by omega), w64_id (by omega) (by omega)]
        simp only [Int.mul_comm (-1 : Int)]
      · exact absurd h hne
      · rw [if_neg (by omega), e]
        rw [w64_id (by omega) (by omega), w64_id (by omega) (by omega), w64_id (by omega) (by omega), w64_id (by omega) (by omega)]
        simp only [Int.mul_comm (1 : Int)]
    · rw [if_neg hr, if_neg hr]; rfl
  · rw [if_neg hp, if_neg hp]; rfl
theorem r11closest_law (p a b c : Int × Int) : r11closest_pre (p, (a, (b, c))) ∧ r11closest (p, (a, (b, c))) = if Sm p then (if Right a b c then (if 0 < InV p a b c then (p, ((0, 1), 0)) else ((Best p a b c).1, ((Best p a b c).2.2, 0))) else ((0, 0), ((0, 0), 1))) else ((0, 0), ((0, 0), 5)) := by
  have hE : ∀ {u v : Int × Int}, Sm p → Sm u → Sm v → r11edge (p, (u, v)) = ((Foot p u v).1, ((Foot p u v).2.1, ((Foot p u v).2.2, 0))) := fun {u v} h1 h2 h3 => by
    rw [(r11edge_law p u v).2]
    exact if_pos ⟨h1, h2, h3⟩
  by_cases hp : Sm p
  · by_cases hr : Right a b c
    · obtain ⟨⟨ha, hb, hc⟩, hne⟩ := id hr
      have f1 := (foot_fr hp ha hb).1
      have f2 := (foot_fr hp hb hc).1
      have f3 := (foot_fr hp hc ha).1
      refine ⟨?_, ?_⟩
      · unfold r11closest_pre letP
        refine ⟨(r10in_law p a b c).1, fun _ _ => ⟨(r11edge_law _ _ _).1, (r11edge_law _ _ _).1, ?_⟩⟩
        dsimp only
        rw [hE hp ha hb, hE hp hb hc, hE hp hc ha]
        exact ⟨(r3cmp_law f2 f1).1, fun _ => ⟨(r11edge_law _ _ _).1, (r3cmp_law f3 f2).1⟩, fun _ => ⟨(r11edge_law _ _ _).1, (r3cmp_law f3 f1).1⟩⟩
      · unfold r11closest
        rw [(r10in_law p a b c).2, if_pos hp, if_pos hr, if_pos hp, if_pos hr]
        dsimp only [letV]
        rw [if_neg (by decide)]
        by_cases hi : 0 < InV p a b c
        · rw [if_pos hi, if_pos hi]
        · rw [if_neg hi, if_neg hi, hE hp ha hb, hE hp hb hc, hE hp hc ha]
          dsimp only
          rw [(r3cmp_law f2 f1).2, (r3cmp_law f3 f2).2, (r3cmp_law f3 f1).2]
          unfold Best pick
          split <;> split <;> rfl
    · refine ⟨?_, ?_⟩
      · unfold r11closest_pre letP
        refine ⟨(r10in_law p a b c).1, fun h => ?_⟩
        rw [(r10in_law p a b c).2, if_pos hp, if_neg hr] at h
        exact absurd rfl h
      · unfold r11closest
        rw [(r10in_law p a b c).2, if_pos hp, if_neg hr, if_pos hp, if_neg hr]; rfl
  · refine ⟨?_, ?_⟩
    · unfold r11closest_pre letP
      refine ⟨(r10in_law p a b c).1, fun h => ?_⟩
      rw [(r10in_law p a b c).2, if_neg hp] at h
      exact absurd rfl h
    · unfold r11closest
      rw [(r10in_law p a b c).2, if_neg hp, if_neg hp]; rfl
theorem lf_down {p a b c : Int × Int} {u v w : Int} (hp : Sm p) (hr : Right a b c) (hu : -16384 ≤ u ∧ u ≤ 16384) (hv : -16384 ≤ v ∧ v ≤ 16384) (hw : -16384 ≤ w ∧ w ≤ 16384) :
    r11down (w64 (w64 (w64 (sg (Det a b c) * Det b c p * u) + w64 (sg (Det a b c) * Det c a p * v)) + w64 (sg (Det a b c) * Det a b p * w)), sg (Det a b c) * Det a b c) = Lf p a b c u v w := by
  obtain ⟨⟨ha, hb, hc⟩, hne⟩ := hr
  have hA := sg_self hne
  have d0 := (det_sg (s := Det a b c) (det_in hb hc hp)).2
  have d1 := (det_sg (s := Det a b c) (det_in hc ha hp)).2
  have d2 := (det_sg (s := Det a b c) (det_in ha hb hp)).2
  have d3 := (det_sg (s := Det a b c) (det_in ha hb hc)).2
  unfold Lf
  generalize sg (Det a b c) * Det b c p = w0 at *
  generalize sg (Det a b c) * Det c a p = w1 at *
  generalize sg (Det a b c) * Det a b p = w2 at *
  generalize sg (Det a b c) * Det a b c = n at *
  have m1 := mulb (a := w0) (b := u) (A := 134217728) (B := 16384) d0.1 d0.2 hu.1 hu.2
  have m2 := mulb (a := w1) (b := v) (A := 134217728) (B := 16384) d1.1 d1.2 hv.1 hv.2
  have m3 := mulb (a := w2) (b := w) (A := 134217728) (B := 16384) d2.1 d2.2 hw.1 hw.2
  rw [w64_id (n := w0 * u) (by omega) (by omega), w64_id (n := w1 * v) (by omega) (by omega), w64_id (n := w2 * w) (by omega) (by omega), w64_id (n := w0 * u + w1 * v) (by omega) (by omega), w64_id (by omega) (by omega), r11down_law (by omega) (by omega) (by omega) (by omega)]
theorem r11lift_law (p a b c : Int × Int) (s t r : Int × (Int × Int)) : r11lift_pre (p, ((a, (b, c)), (s, (t, r)))) ∧ r11lift (p, ((a, (b, c)), (s, (t, r)))) = if Sm p then (if Sm3 s ∧ Sm3 t ∧ Sm3 r then (if Right a b c then ((Lf p a b c s.1 t.1 r.1, (Lf p a b c s.2.1 t.2.1 r.2.1, Lf p a b c s.2.2 t.2.2 r.2.2)), 0) else ((0, (0, 0)), 1)) else ((0, (0, 0)), 5)) else ((0, (0, 0)), 5) := by
  refine ⟨?_, ?_⟩
  · unfold r11lift_pre letP
    exact fun _ _ _ _ => ⟨(r11weights_law p a b c).1, fun _ => ⟨r2floor_tm _, r2floor_tm _, r2floor_tm _⟩⟩
  · unfold r11lift
    dsimp only [letV]
    rw [r9small2_law, r9small3_law, r9small3_law, r9small3_law, (r11weights_law p a b c).2]
    by_cases hp : Sm p
    · rw [decide_eq_true hp, if_neg (by decide)]
      by_cases h1 : Sm3 s
      · rw [decide_eq_true h1, if_neg (by decide)]
        by_cases h2 : Sm3 t
        · rw [decide_eq_true h2, if_neg (by decide)]
          by_cases h3 : Sm3 r
          · rw [decide_eq_true h3, if_neg (by decide), if_pos hp, if_pos hp, if_pos (show Sm3 s ∧ Sm3 t ∧ Sm3 r from ⟨h1, h2, h3⟩)]
            by_cases hr : Right a b c
            · rw [if_pos hr, if_pos hr]
              dsimp only
              rw [if_neg (by decide), lf_down hp hr h1.1 h2.1 h3.1, lf_down hp hr h1.2.1 h2.2.1 h3.2.1, lf_down hp hr h1.2.2 h2.2.2 h3.2.2]
            · rw [if_neg hr, if_neg hr]; rfl
          · rw [decide_eq_false h3, if_pos (by decide), if_pos hp, if_neg (fun h => h3 h.2.2)]
        · rw [decide_eq_false h2, if_pos (by decide), if_pos hp, if_neg (fun h => h2 h.2.1)]
      · rw [decide_eq_false h1, if_pos (by decide), if_pos hp, if_neg (fun h => h1 h.1)]
    · rw [decide_eq_false hp, if_pos (by decide), if_neg hp]
end Go.Proofs.Ytpdhabfebpjihaa
