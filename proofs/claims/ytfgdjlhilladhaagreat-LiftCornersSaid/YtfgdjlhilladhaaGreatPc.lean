/- Plain laws: where a point is in a triangle, what is closest. -/
import Derived.Test.YtfgdjlhilladhaaGreatPb
namespace Go.Proofs.YtfgdjlhilladhaaGreat
open Go Go.Ev Go.Proofs
theorem mside_law {p a b : Int × Int} (n : Int) (hp : Sm p) (ha : Sm a) (hb : Sm b) : mside (p, (a, (b, sg n))) = sg n * sg (Det a b p) := by
  unfold mside
  rw [sside_law, if_pos ⟨ha, hb, hp⟩]
  dsimp only [letV]
  rcases sg_cases n with ⟨_, e⟩ | ⟨_, e⟩ | ⟨_, e⟩ <;> rcases sg_cases (Det a b p) with ⟨_, f⟩ | ⟨_, f⟩ | ⟨_, f⟩ <;> rw [e, f] <;> rfl
theorem mIn_law (p a b c : Int × Int) : mIn (p, (a, (b, c))) = if Sm p then (if Right a b c then (InV p a b c, 0) else (0, 1)) else (0, 5) := by
  unfold mIn
  dsimp only [letV]
  rw [small2_one, mright_law]
  by_cases hp : Sm p
  · rw [decide_eq_true hp, if_neg (by decide), if_pos hp]
    by_cases hr : Right a b c
    · rw [decide_eq_true hr, if_neg (by decide), if_pos hr, sside_law, if_pos hr.1]
      dsimp only
      rw [mside_law _ hp hr.1.1 hr.1.2.1, mside_law _ hp hr.1.2.1 hr.1.2.2, mside_law _ hp hr.1.2.2 hr.1.1]
      have e1 : sg (Det a b c) * sg (Det b c p) = Sd b c a p := by unfold Sd; rw [det_turn a b c]
      have e2 : sg (Det a b c) * sg (Det c a p) = Sd c a b p := by unfold Sd; rw [det_turn b c a, det_turn a b c]
      rw [e1, e2]
      have h1 := sd_in a b c p
      have h2 := sd_in b c a p
      have h3 := sd_in c a b p
      have e3 : sg (Det a b c) * sg (Det a b p) = Sd a b c p := rfl
      rw [e3, w64_id (by unfold minI; split <;> split <;> split <;> omega) (by unfold minI; split <;> split <;> split <;> omega)]
      rfl
    · rw [decide_eq_false hr, if_pos (by decide), if_neg hr]
  · rw [decide_eq_false hp, if_pos (by decide), if_neg hp]
theorem mIn_tm (x : (Int × Int) × ((Int × Int) × ((Int × Int) × (Int × Int)))) : mIn_pre x :=
  ⟨(small2_law _ (by simp)).1, fun _ => ⟨(sarea_law _ _ _).1, fun _ => ⟨(sarea_law _ _ _).1, (sarea_law _ _ _).1, (sarea_law _ _ _).1, (sarea_law _ _ _).1⟩⟩⟩
/-- The side as a number: S times the area. -/
def Fd (a b c p : Int × Int) : Int := sg (Det a b c) * Det a b p
theorem sd_fd {a b c p : Int × Int} : (0 ≤ Sd a b c p ↔ 0 ≤ Fd a b c p) ∧ (0 < Sd a b c p ↔ 0 < Fd a b c p) := by
  unfold Sd Fd
  rcases sg_cases (Det a b c) with ⟨_, e⟩ | ⟨_, e⟩ | ⟨_, e⟩ <;> rcases sg_cases (Det a b p) with ⟨_, f⟩ | ⟨_, f⟩ | ⟨_, f⟩ <;> rw [e, f] <;> omega
theorem inV_in (p a b c : Int × Int) : 0 ≤ InV p a b c ∧ InV p a b c ≤ 2 := by
  have h1 := sd_in a b c p
  have h2 := sd_in b c a p
  have h3 := sd_in c a b p
  unfold InV minI
  split <;> split <;> split <;> omega
theorem inV_pos (p a b c : Int × Int) : 0 < InV p a b c ↔ 0 ≤ Fd a b c p ∧ 0 ≤ Fd b c a p ∧ 0 ≤ Fd c a b p := by
  have h1 := sd_in a b c p
  have h2 := sd_in b c a p
  have h3 := sd_in c a b p
  rw [← (sd_fd (a := a)).1, ← (sd_fd (a := b)).1, ← (sd_fd (a := c)).1]
  unfold InV minI
  split <;> split <;> split <;> omega
theorem inV_two (p a b c : Int × Int) : InV p a b c = 2 ↔ 0 < Fd a b c p ∧ 0 < Fd b c a p ∧ 0 < Fd c a b p := by
  have h1 := sd_in a b c p
  have h2 := sd_in b c a p
  have h3 := sd_in c a b p
  rw [← (sd_fd (a := a)).2, ← (sd_fd (a := b)).2, ← (sd_fd (a := c)).2]
  unfold InV minI
  split <;> split <;> split <;> omega
/-! ### Fractions that are compared -/
def FLe (u v : Int × Int) : Prop := u.1 * v.2 ≤ v.1 * u.2
theorem sg_le {u v : Int × Int} : sg (u.1 * v.2 - v.1 * u.2) ≤ 0 ↔ FLe u v := by
  unfold FLe
  rcases sg_cases (u.1 * v.2 - v.1 * u.2) with ⟨h, e⟩ | ⟨h, e⟩ | ⟨h, e⟩ <;> rw [e] <;> omega
theorem sg_lt {u v : Int × Int} (h : ¬ sg (u.1 * v.2 - v.1 * u.2) < 0) : FLe v u := by
  unfold FLe
  rcases sg_cases (u.1 * v.2 - v.1 * u.2) with ⟨h1, e⟩ | ⟨h1, e⟩ | ⟨h1, e⟩ <;> rw [e] at h <;> omega
theorem FLe.refl (u : Int × Int) : FLe u u := Int.le_refl _
theorem FLe.trans {u v w : Int × Int} (h1 : FLe u v) (h2 : FLe v w) (hu : 0 < u.2) (hv : 0 < v.2) (hw : 0 < w.2) : FLe u w := by
  unfold FLe at *
  have e1 := Int.mul_le_mul_of_nonneg_right h1 (show 0 ≤ w.2 by omega)
  have e2 := Int.mul_le_mul_of_nonneg_right h2 (show 0 ≤ u.2 by omega)
  refine Int.le_of_mul_le_mul_right (a := v.2) ?_ hv
  grind
theorem foot_fr {p a b : Int × Int} (hp : Sm p) (ha : Sm a) (hb : Sm b) : Fr (Foot p a b).2.2 ∧ 0 ≤ (Foot p a b).2.2.1 := by
  have s1 := sq_in hp ha
  have s2 := sq_in hp hb
  have s3 := sq_in hb ha
  have dt := det_in ha hb hp
  have m3 := mulb (a := Det a b p) (b := Det a b p) (A := 134217728) (B := 134217728) (by omega) (by omega) (by omega) (by omega)
  have m4 := sq_nonneg (Det a b p)
  unfold Foot
  split
  · dsimp only; omega
  · split
    · dsimp only; omega
    · dsimp only; omega
/-- Nothing on an edge is nearer than its foot. -/
theorem foot_le (p a b : Int × Int) (M U : Int) (hM : 0 < M) (hU : 0 ≤ U) (hUM : U ≤ M) :
    (Foot p a b).2.2.1 * (M * M) ≤ (Foot p a b).2.2.2 * ((M * (p.1 - a.1) - U * (b.1 - a.1)) * (M * (p.1 - a.1) - U * (b.1 - a.1)) + (M * (p.2 - a.2) - U * (b.2 - a.2)) * (M * (p.2 - a.2) - U * (b.2 - a.2))) := by
  have ex : (M * (p.1 - a.1) - U * (b.1 - a.1)) * (M * (p.1 - a.1) - U * (b.1 - a.1)) + (M * (p.2 - a.2) - U * (b.2 - a.2)) * (M * (p.2 - a.2) - U * (b.2 - a.2)) = M * M * Sq p a - 2 * (M * U) * Dot p a b + U * U * Sq b a := by
    unfold Sq Dot; grind
  rw [ex]
  have hn : 0 ≤ Sq b a := by
    have s1 := sq_nonneg (b.1 - a.1)
    have s2 := sq_nonneg (b.2 - a.2)
    unfold Sq; omega
  have hz : Sq b a = 0 → Dot p a b = 0 := by
    intro h
    have s1 := sq_nonneg (b.1 - a.1)
    have s2 := sq_nonneg (b.2 - a.2)
    unfold Sq at h
    have z1 : b.1 - a.1 = 0 := by
      have : (b.1 - a.1) * (b.1 - a.1) = 0 := by omega
      rcases Int.mul_eq_zero.1 this with h | h <;> exact h
    have z2 : b.2 - a.2 = 0 := by
      have : (b.2 - a.2) * (b.2 - a.2) = 0 := by omega
      rcases Int.mul_eq_zero.1 this with h | h <;> exact h
    unfold Dot
    rw [z1, z2]; simp
  have hq : Sq p b = Sq p a - 2 * Dot p a b + Sq b a := by unfold Sq Dot; grind
  have hd : Det a b p * Det a b p = Sq b a * Sq p a - Dot p a b * Dot p a b := by unfold Sq Dot Det; grind
  have MU := Int.mul_nonneg (show 0 ≤ M by omega) hU
  have UU := Int.mul_nonneg (Int.mul_nonneg hU hU) hn
  unfold Foot
  generalize Dot p a b = m at *
  generalize Sq b a = n at *
  generalize Sq p a = k at *
  generalize Sq p b = l at *
  generalize Det a b p = d at *
  by_cases h1 : m ≤ 0 ∨ n = 0
  · rw [if_pos h1]
    dsimp only
    have hm : m ≤ 0 := h1.elim id fun h => by have := hz h; omega
    have := Int.mul_nonneg MU (show 0 ≤ -m by omega)
    grind
  · rw [if_neg h1]
    by_cases h2 : n ≤ m
    · rw [if_pos h2]
      dsimp only
      rw [hq]
      have g1 := Int.mul_nonneg (show 0 ≤ M - U by omega) (Int.mul_nonneg (show 0 ≤ M by omega) (show 0 ≤ m - n by omega))
      have g2 := Int.mul_nonneg (show 0 ≤ M - U by omega) (Int.mul_nonneg (show 0 ≤ M - U by omega) hn)
      grind
    · rw [if_neg h2]
      dsimp only
      rw [hd]
      have g1 := sq_nonneg (M * m - U * n)
      grind
theorem foot_ends (p a b : Int × Int) : FLe (Foot p a b).2.2 (Sq p a, 1) ∧ FLe (Foot p a b).2.2 (Sq p b, 1) := by
  have h1 := foot_le p a b 1 0 (by omega) (by omega) (by omega)
  have h2 := foot_le p a b 1 1 (by omega) (by omega) (by omega)
  unfold FLe
  refine ⟨?_, ?_⟩
  · have e : (1 * (p.1 - a.1) - 0 * (b.1 - a.1)) * (1 * (p.1 - a.1) - 0 * (b.1 - a.1)) + (1 * (p.2 - a.2) - 0 * (b.2 - a.2)) * (1 * (p.2 - a.2) - 0 * (b.2 - a.2)) = Sq p a := by unfold Sq; grind
    rw [e] at h1
    dsimp only
    rw [Int.mul_comm (Sq p a)]; simpa using h1
  · have e : (1 * (p.1 - a.1) - 1 * (b.1 - a.1)) * (1 * (p.1 - a.1) - 1 * (b.1 - a.1)) + (1 * (p.2 - a.2) - 1 * (b.2 - a.2)) * (1 * (p.2 - a.2) - 1 * (b.2 - a.2)) = Sq p b := by unfold Sq; grind
    rw [e] at h2
    dsimp only
    rw [Int.mul_comm (Sq p b)]; simpa using h2
theorem cross_alg {A x1 x2 x3 y1 y2 y3 p q a b c : Int} (hx : A * p = x1 * a + x2 * b + x3 * c) (hy : A * q = y1 * a + y2 * b + y3 * c) (hs : (y3 * x1 - x3 * y1) + (y3 * x2 - x3 * y2) = (y3 - x3) * A) :
    (y3 - x3) * A * (p - a) - (y3 * x2 - x3 * y2) * (b - a) = A * -x3 * (p - q) := by
  have h1 : y3 * (A * p) - x3 * (A * q) = (y3 * x1 - x3 * y1) * a + (y3 * x2 - x3 * y2) * b := by rw [hx, hy]; grind
  have h2 : (y3 * x1 - x3 * y1) * a + (y3 * x2 - x3 * y2) * a = (y3 - x3) * A * a := by rw [← hs]; grind
  clear hx hy hs
  grind
/-- A way into a triangle crosses an edge: no shorter than the way to that edge. -/
theorem cross_le {p q a b c : Int × Int} {S : Int} (hA : 0 < S * Det a b c) (h0 : S * Det a b p < 0) (g0 : 0 ≤ S * Det a b q)
    (hV : 0 ≤ S * Det a b q * (S * Det b c p) - S * Det a b p * (S * Det b c q)) (hU : 0 ≤ S * Det a b q * (S * Det c a p) - S * Det a b p * (S * Det c a q)) (hD : 0 < (Foot p a b).2.2.2) : FLe (Foot p a b).2.2 (Sq p q, 1) := by
  have sp := det_sum a b c p
  have sq := det_sum a b c q
  have xp := det_x a b c p
  have xq := det_x a b c q
  have yp := det_y a b c p
  have yq := det_y a b c q
  have hsq : 0 ≤ Sq p q := by
    have s1 := sq_nonneg (p.1 - q.1)
    have s2 := sq_nonneg (p.2 - q.2)
    unfold Sq; omega
  -- with the sign ahead
  have sp' : S * Det b c p + S * Det c a p + S * Det a b p = S * Det a b c := by rw [← sp]; grind
  have sq' : S * Det b c q + S * Det c a q + S * Det a b q = S * Det a b c := by rw [← sq]; grind
  have xp' : S * Det a b c * p.1 = S * Det b c p * a.1 + S * Det c a p * b.1 + S * Det a b p * c.1 := by rw [Int.mul_assoc, xp, Int.mul_add, Int.mul_add, Int.mul_assoc, Int.mul_assoc, Int.mul_assoc]
  have xq' : S * Det a b c * q.1 = S * Det b c q * a.1 + S * Det c a q * b.1 + S * Det a b q * c.1 := by rw [Int.mul_assoc, xq, Int.mul_add, Int.mul_add, Int.mul_assoc, Int.mul_assoc, Int.mul_assoc]
  have yp' : S * Det a b c * p.2 = S * Det b c p * a.2 + S * Det c a p * b.2 + S * Det a b p * c.2 := by rw [Int.mul_assoc, yp, Int.mul_add, Int.mul_add, Int.mul_assoc, Int.mul_assoc, Int.mul_assoc]
  have yq' : S * Det a b c * q.2 = S * Det b c q * a.2 + S * Det c a q * b.2 + S * Det a b q * c.2 := by rw [Int.mul_assoc, yq, Int.mul_add, Int.mul_add, Int.mul_assoc, Int.mul_assoc, Int.mul_assoc]
  clear sp sq xp xq yp yq
  generalize S * Det a b c = A at *
  generalize S * Det a b p = x3 at *
  generalize S * Det a b q = y3 at *
  generalize S * Det b c p = x1 at *
  generalize S * Det b c q = y1 at *
  generalize S * Det c a p = x2 at *
  generalize S * Det c a q = y2 at *
  have hw : 0 < y3 - x3 := by omega
  have hM : 0 < (y3 - x3) * A := Int.mul_pos hw hA
  have hs : (y3 * x1 - x3 * y1) + (y3 * x2 - x3 * y2) = (y3 - x3) * A := by
    have e1 : x1 + x2 = A - x3 := by omega
    have e2 : y1 + y2 = A - y3 := by omega
    have : y3 * (x1 + x2) - x3 * (y1 + y2) = (y3 - x3) * A := by rw [e1, e2]; grind
    grind
  have fl := foot_le p a b ((y3 - x3) * A) (y3 * x2 - x3 * y2) hM hU (by omega)
  have e1 := cross_alg xp' xq' hs
  have e2 := cross_alg yp' yq' hs
  rw [e1, e2] at fl
  have e3 : A * -x3 * (p.1 - q.1) * (A * -x3 * (p.1 - q.1)) + A * -x3 * (p.2 - q.2) * (A * -x3 * (p.2 - q.2)) = (A * -x3) * (A * -x3) * Sq p q := by unfold Sq; grind
  rw [e3] at fl
  have e4 : (A * -x3) * (A * -x3) ≤ ((y3 - x3) * A) * ((y3 - x3) * A) := by
    have i1 : A * -x3 ≤ (y3 - x3) * A := by
      have := Int.mul_nonneg (show 0 ≤ A by omega) g0
      grind
    have i0 : 0 ≤ A * -x3 := Int.mul_nonneg (by omega) (by omega)
    exact Int.mul_le_mul i1 i1 i0 (by omega)
  unfold FLe
  dsimp only
  have e5 := Int.mul_le_mul_of_nonneg_left (Int.mul_le_mul_of_nonneg_right e4 hsq) (show 0 ≤ (Foot p a b).2.2.2 by omega)
  have e6 : 0 < ((y3 - x3) * A) * ((y3 - x3) * A) := Int.mul_pos hM hM
  generalize (Foot p a b).2.2.1 = N at *
  generalize (Foot p a b).2.2.2 = D' at *
  generalize ((y3 - x3) * A) * ((y3 - x3) * A) = M2 at *
  refine Int.le_of_mul_le_mul_right (a := M2) ?_ e6
  have : N * M2 ≤ D' * (M2 * Sq p q) := Int.le_trans fl e5
  grind
end Go.Proofs.YtfgdjlhilladhaaGreat
