/- LiftBox's and LiftTurned's functions answer true, whatever their input. -/
import Derived.Test.YtfgdjlhilladhaaPh0
import Derived.Test.YtfgdjlhilladhaaLa
namespace Go.Proofs.Ytfgdjlhilladhaa
open Go Go.Ev Go.Proofs
abbrev InT (x y : Int) : Prop := 0 ≤ x ∧ x < 256 ∧ 0 ≤ y ∧ y < 256
def Cen (x y : Int) : Int × Int := (16 * x + 8, 16 * y + 8)
theorem lcentre_law (x y : Int) : lcentre (x, y) = if InT x y then (Cen x y, 0) else ((0, 0), 5) := by
  unfold lcentre Cen
  dsimp only
  by_cases h : InT x y
  · rw [if_pos h]
    obtain ⟨h1, h2, h3, h4⟩ := h
    have e1 : ¬ minI x y < 0 := by unfold minI; split <;> omega
    have e2 : ¬ maxI x y ≥ 256 := by unfold maxI; split <;> omega
    rw [if_neg e1, if_neg e2, w64_id (n := 16 * x) (by omega) (by omega), w64_id (n := 16 * y) (by omega) (by omega), w64_id (by omega) (by omega), w64_id (by omega) (by omega)]
  · rw [if_neg h]
    by_cases e1 : minI x y < 0
    · rw [if_pos e1]
    · rw [if_neg e1]
      have e2 : maxI x y ≥ 256 := by
        unfold minI at e1; unfold maxI; unfold InT at h
        split at e1 <;> split <;> omega
      rw [if_pos e2]
theorem cen_sm {x y : Int} (h : InT x y) : Sm (Cen x y) := by
  unfold Cen Sm; obtain ⟨h1, h2, h3, h4⟩ := h; dsimp only; omega
theorem lpoint_tm (x : Int × (Int × (((Int × Int) × ((Int × Int) × (Int × Int))) × ((Int × (Int × Int)) × ((Int × (Int × Int)) × (Int × (Int × Int))))))) : lpoint_pre x :=
  fun _ => ⟨closest_tm _, fun _ => nlift_tm _⟩
/-- Which point is nearest to a texel's centre. -/
def Qp (x y : Int) (a b c : Int × Int) : Int × Int := if 0 < InV (Cen x y) a b c then Cen x y else (Best (Cen x y) a b c).1
theorem lpoint_law (x y : Int) (a b c : Int × Int) (s : (Int × (Int × Int)) × ((Int × (Int × Int)) × (Int × (Int × Int)))) :
    lpoint (x, (y, ((a, (b, c)), s))) = if InT x y then (if Right a b c then nlift (Qp x y a b c, ((a, (b, c)), s)) else ((0, (0, 0)), 1)) else ((0, (0, 0)), 5) := by
  unfold lpoint
  dsimp only [letV]
  rw [lcentre_law]
  by_cases h : InT x y
  · rw [if_pos h, if_pos h, if_neg (by simp)]
    dsimp only
    rw [closest_law, if_pos (cen_sm h)]
    by_cases hr : Right a b c
    · rw [if_pos hr, if_pos hr]
      unfold Qp
      by_cases hi : 0 < InV (Cen x y) a b c
      · rw [if_pos hi, if_pos hi, if_neg (by simp)]
      · rw [if_neg hi, if_neg hi, if_neg (by simp)]
    · rw [if_neg hr, if_neg hr, if_pos (by decide)]
  · rw [if_neg h, if_neg h, if_pos (by decide)]
/-- A foot lies between the ends. -/
theorem foot_sm {p a b : Int × Int} (ha : Sm a) (hb : Sm b) : Sm (Foot p a b).1 := by
  unfold Foot
  split
  · exact ha
  · rename_i h
    split
    · exact hb
    · rename_i h2
      have p1 := part_in (d := b.1 - a.1) (m := Dot p a b) (n := Sq b a) (by omega) (by omega)
      have p2 := part_in (d := b.2 - a.2) (m := Dot p a b) (n := Sq b a) (by omega) (by omega)
      dsimp only
      unfold Sm at *
      dsimp only
      rcases Int.le_total 0 (b.1 - a.1) with h3 | h3 <;> rcases Int.le_total 0 (b.2 - a.2) with h4 | h4
      · have q1 := p1.1 h3; have q2 := p2.1 h4; omega
      · have q1 := p1.1 h3; have q2 := p2.2 h4; omega
      · have q1 := p1.2 h3; have q2 := p2.1 h4; omega
      · have q1 := p1.2 h3; have q2 := p2.2 h4; omega
theorem pick_of {P : (Int × Int) × (Int × (Int × Int)) → Prop} {u v : (Int × Int) × (Int × (Int × Int))} (hu : P u) (hv : P v) : P (pick u v) := by
  unfold pick; split
  · exact hv
  · exact hu
theorem best_sm {p a b c : Int × Int} (ha : Sm a) (hb : Sm b) (hc : Sm c) : Sm (Best p a b c).1 :=
  pick_of (P := fun q => Sm q.1) (pick_of (P := fun q => Sm q.1) (foot_sm ha hb) (foot_sm hb hc)) (foot_sm hc ha)
theorem qp_sm {x y : Int} {a b c : Int × Int} (h : InT x y) (ha : Sm a) (hb : Sm b) (hc : Sm c) : Sm (Qp x y a b c) := by
  unfold Qp
  split
  · exact cen_sm h
  · exact best_sm ha hb hc
theorem lifted_tm (x : Bool) : l20lifted_pre x := ⟨lpoint_tm _, lpoint_tm _⟩
theorem lifted_law (x : Bool) : l20lifted x = true := by
  unfold l20lifted
  rw [lpoint_law, lpoint_law, lcentre_law, lcentre_law, nlift_law, nlift_law]
  decide
theorem box_tm (x : Int × (Int × (((Int × Int) × ((Int × Int) × (Int × Int))) × ((Int × (Int × Int)) × ((Int × (Int × Int)) × (Int × (Int × Int))))))) : l20box_pre x :=
  ⟨lpoint_tm _, fun _ => lifted_tm _, fun _ => ⟨mIn_tm _, lpoint_tm _, fun _ _ _ _ => ⟨fun _ => lifted_tm _, fun _ => lifted_tm _⟩⟩⟩
theorem box_law (x : Int × (Int × (((Int × Int) × ((Int × Int) × (Int × Int))) × ((Int × (Int × Int)) × ((Int × (Int × Int)) × (Int × (Int × Int))))))) : l20box x = true := by
  obtain ⟨x, y, ⟨a, b, c⟩, s, t, r⟩ := x
  unfold l20box
  dsimp only [letV]
  rw [lpoint_law, lpoint_law, lcentre_law, lifted_law]
  by_cases h : InT x y
  · rw [if_pos h, if_pos h, if_pos h]
    by_cases hr : Right a b c
    · rw [if_pos hr, if_pos hr]
      have hq := qp_sm h hr.1.1 hr.1.2.1 hr.1.2.2
      by_cases hs : Sm3 s ∧ Sm3 t ∧ Sm3 r
      · rw [lift_good hq hs hr, lift_good hq ⟨hs.2.1, hs.2.1, hs.2.1⟩ hr, lf_one hr.2, lf_one hr.2, lf_one hr.2]
        dsimp only
        rw [mIn_law, if_pos (cen_sm h), if_pos hr]
        simp only [bne_self_eq_false, Bool.false_eq_true, if_false, beq_self_eq_true, Bool.and_self, Bool.and_true, Bool.not_true, if_true]
        by_cases hi : InV (Cen x y) a b c = 0
        · rw [if_pos (by simpa using hi)]
        · have i2 := inV_in (Cen x y) a b c
          have hp : 0 < InV (Cen x y) a b c := by omega
          have hQ : Qp x y a b c = Cen x y := by unfold Qp; rw [if_pos hp]
          rw [hQ]
          have g1 := lf_in hr.2 hp s.1 t.1 r.1
          have g2 := lf_in hr.2 hp s.2.1 t.2.1 r.2.1
          have g3 := lf_in hr.2 hp s.2.2 t.2.2 r.2.2
          rw [if_neg (by simpa using hi), if_pos g1.1, if_pos g1.2, if_pos g2.1, if_pos g2.2, if_pos g3.1]
          exact decide_eq_true g3.2
      · obtain ⟨e, he, hE⟩ := lift_bad (p := Qp x y a b c) (a := a) (b := b) (c := c) (s := s) (t := t) (r := r) fun q => hs q.2.1
        rw [hE, if_pos (by simpa using he)]
        rfl
    · rw [if_neg hr]; rfl
  · rw [if_neg h]; rfl
theorem turned_tm (x : Int × (Int × (((Int × Int) × ((Int × Int) × (Int × Int))) × ((Int × (Int × Int)) × ((Int × (Int × Int)) × (Int × (Int × Int))))))) : l20turned_pre x :=
  ⟨lpoint_tm _, lpoint_tm _, lpoint_tm _, fun _ _ => ⟨mIn_tm _, lifted_tm false⟩⟩
theorem sg_neg (n : Int) : sg (-n) = -sg n := by unfold sg; by_cases h1 : n < 0 <;> by_cases h2 : n > 0 <;> simp [h1, h2] <;> omega
theorem det_turn2 (a b c : Int × Int) : Det c a b = Det a b c := by rw [det_turn b c a, det_turn a b c]
theorem lf_turn (p a b c : Int × Int) (u v w : Int) : Lf p b c a v w u = Lf p a b c u v w := by
  unfold Lf
  rw [det_turn a b c]
  congr 1
  omega
theorem lf_flip (p a b c : Int × Int) (u v w : Int) : Lf p b a c v u w = Lf p a b c u v w := by
  unfold Lf
  rw [det_flip a b c, det_flip c a p, det_flip b c p, det_flip a b p, sg_neg]
  rw [Int.neg_mul_neg, Int.neg_mul_neg, Int.neg_mul_neg, Int.neg_mul_neg]
  congr 1
  omega
theorem right_turn {a b c : Int × Int} (h : Right a b c) : Right b c a := ⟨⟨h.1.2.1, h.1.2.2, h.1.1⟩, by rw [det_turn]; exact h.2⟩
theorem right_flip {a b c : Int × Int} (h : Right a b c) : Right b a c := ⟨⟨h.1.2.1, h.1.1, h.1.2.2⟩, by rw [det_flip]; have := h.2; omega⟩
theorem inV_turn (p a b c : Int × Int) : 0 < InV p b c a ↔ 0 < InV p a b c := by
  rw [inV_pos, inV_pos]
  constructor
  · exact fun h => ⟨h.2.2, h.1, h.2.1⟩
  · exact fun h => ⟨h.2.1, h.2.2, h.1⟩
theorem fd_flip (a b c p : Int × Int) : Fd b a c p = Fd a b c p := by
  unfold Fd; rw [det_flip a b c, det_flip a b p, sg_neg, Int.neg_mul_neg]
theorem inV_flip (p a b c : Int × Int) : 0 < InV p b a c ↔ 0 < InV p a b c := by
  rw [inV_pos, inV_pos, fd_flip a b c p, fd_flip c a b p, fd_flip b c a p]
  constructor
  · exact fun h => ⟨h.1, h.2.2, h.2.1⟩
  · exact fun h => ⟨h.1, h.2.2, h.2.1⟩
theorem turned_law (x : Int × (Int × (((Int × Int) × ((Int × Int) × (Int × Int))) × ((Int × (Int × Int)) × ((Int × (Int × Int)) × (Int × (Int × Int))))))) : l20turned x = true := by
  obtain ⟨x, y, ⟨a, b, c⟩, s, t, r⟩ := x
  unfold l20turned
  dsimp only [letV]
  rw [lpoint_law, lpoint_law, lpoint_law, lcentre_law, lifted_law]
  by_cases h : InT x y
  · rw [if_pos h, if_pos h, if_pos h, if_pos h]
    by_cases hr : Right a b c
    · rw [if_pos hr, if_pos (right_turn hr), if_pos (right_flip hr)]
      have q1 := qp_sm h hr.1.1 hr.1.2.1 hr.1.2.2
      have q2 := qp_sm h hr.1.2.1 hr.1.2.2 hr.1.1
      have q3 := qp_sm h hr.1.2.1 hr.1.1 hr.1.2.2
      by_cases hs : Sm3 s ∧ Sm3 t ∧ Sm3 r
      · rw [lift_good q1 hs hr, lift_good q2 ⟨hs.2.1, hs.2.2, hs.1⟩ (right_turn hr), lift_good q3 ⟨hs.2.1, hs.1, hs.2.2⟩ (right_flip hr)]
        dsimp only
        rw [mIn_law, if_pos (cen_sm h), if_pos hr]
        simp only [bne_self_eq_false, Bool.false_eq_true, if_false, if_true]
        by_cases hi : InV (Cen x y) a b c = 0
        · rw [if_pos (by simpa using hi)]
        · have i2 := inV_in (Cen x y) a b c
          have hp : 0 < InV (Cen x y) a b c := by omega
          have e1 : Qp x y a b c = Cen x y := by unfold Qp; rw [if_pos hp]
          have e2 : Qp x y b c a = Cen x y := by unfold Qp; rw [if_pos ((inV_turn _ _ _ _).2 hp)]
          have e3 : Qp x y b a c = Cen x y := by unfold Qp; rw [if_pos ((inV_flip _ _ _ _).2 hp)]
          rw [if_neg (by simpa using hi), e1, e2, e3]
          simp only [lf_turn, lf_flip, beq_self_eq_true, Bool.and_self, if_true]
      · have e1 : nlift (Qp x y a b c, ((a, (b, c)), (s, (t, r)))) = ((0, (0, 0)), 5) := by rw [nlift_law, if_pos q1, if_neg hs]
        have e2 : nlift (Qp x y b c a, ((b, (c, a)), (t, (r, s)))) = ((0, (0, 0)), 5) := by rw [nlift_law, if_pos q2, if_neg fun q => hs ⟨q.2.2, q.1, q.2.1⟩]
        have e3 : nlift (Qp x y b a c, ((b, (a, c)), (t, (s, r)))) = ((0, (0, 0)), 5) := by rw [nlift_law, if_pos q3, if_neg fun q => hs ⟨q.2.1, q.1, q.2.2⟩]
        rw [e1, e2, e3]; simp
    · have n2 : ¬ Right b c a := fun q => hr (right_turn (right_turn q))
      have n3 : ¬ Right b a c := fun q => hr (right_flip q)
      rw [if_neg hr, if_neg n2, if_neg n3]; simp
  · simp only [if_neg h]; simp
end Go.Proofs.Ytfgdjlhilladhaa
