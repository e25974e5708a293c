/- Plain laws: wide products, fractions, division rounded down, an edge's foot. -/
import Derived.Test.YtfgdjlhilladhaaGreatPa
namespace Go.Proofs.YtfgdjlhilladhaaGreat
open Go Go.Ev Go.Proofs
/-! ### Wide numbers -/
def muH (A B : Int) : Int := w64 (w64 (w64 (w64 (A.tdiv 1000000000) * w64 (B.tdiv 1000000000)) + w64 ((w64 (w64 (w64 (A.tdiv 1000000000) * B.tmod 1000000000) + w64 (A.tmod 1000000000 * w64 (B.tdiv 1000000000)))).tdiv 1000000000)) + w64 ((w64 (w64 (A.tmod 1000000000 * B.tmod 1000000000) + w64 ((w64 (w64 (w64 (A.tdiv 1000000000) * B.tmod 1000000000) + w64 (A.tmod 1000000000 * w64 (B.tdiv 1000000000)))).tmod 1000000000 * 1000000000))).tdiv 1000000000000000000))
def muL (A B : Int) : Int := (w64 (w64 (A.tmod 1000000000 * B.tmod 1000000000) + w64 ((w64 (w64 (w64 (A.tdiv 1000000000) * B.tmod 1000000000) + w64 (A.tmod 1000000000 * w64 (B.tdiv 1000000000)))).tmod 1000000000 * 1000000000))).tmod 1000000000000000000
theorem mu_eq {A B : Int} (ha : 0 ≤ A) (ha2 : A ≤ 1000000000000000000) (hb : 0 ≤ B) (hb2 : B ≤ 1000000000000000000) : muH A B = A * B / 1000000000000000000 ∧ muL A B = A * B % 1000000000000000000 := by
  unfold muH muL
  rw [Int.tdiv_eq_ediv_of_nonneg ha, Int.tmod_eq_emod_of_nonneg ha, Int.tdiv_eq_ediv_of_nonneg hb, Int.tmod_eq_emod_of_nonneg hb]
  rw [w64_id (n := A / 1000000000) (by omega) (by omega), w64_id (n := B / 1000000000) (by omega) (by omega)]
  have e : A * B = (A / 1000000000 * 1000000000 + A % 1000000000) * (B / 1000000000 * 1000000000 + B % 1000000000) := by
    rw [Int.ediv_mul_add_emod, Int.ediv_mul_add_emod]
  have h1 : 0 ≤ A / 1000000000 ∧ A / 1000000000 ≤ 1000000000 := by omega
  have h2 : 0 ≤ A % 1000000000 ∧ A % 1000000000 ≤ 999999999 := by omega
  have h3 : 0 ≤ B / 1000000000 ∧ B / 1000000000 ≤ 1000000000 := by omega
  have h4 : 0 ≤ B % 1000000000 ∧ B % 1000000000 ≤ 999999999 := by omega
  revert e
  generalize A / 1000000000 = p at h1 ⊢
  generalize A % 1000000000 = q at h2 ⊢
  generalize B / 1000000000 = r at h3 ⊢
  generalize B % 1000000000 = s at h4 ⊢
  intro e
  rw [e]
  have b1 := mulb (a := p) (b := r) (A := 1000000000) (B := 1000000000) (by omega) (by omega) (by omega) (by omega)
  have b2 := mulb (a := p) (b := s) (A := 1000000000) (B := 999999999) (by omega) (by omega) (by omega) (by omega)
  have b3 := mulb (a := q) (b := r) (A := 999999999) (B := 1000000000) (by omega) (by omega) (by omega) (by omega)
  have b4 := mulb (a := q) (b := s) (A := 999999999) (B := 999999999) (by omega) (by omega) (by omega) (by omega)
  have c1 := Int.mul_nonneg h1.1 h3.1
  have c2 := Int.mul_nonneg h1.1 h4.1
  have c3 := Int.mul_nonneg h2.1 h3.1
  have c4 := Int.mul_nonneg h2.1 h4.1
  have e2 : (p * 1000000000 + q) * (r * 1000000000 + s) = p * r * 1000000000000000000 + (p * s + q * r) * 1000000000 + q * s := by grind
  rw [e2]
  generalize p * r = x at *
  generalize p * s = y at *
  generalize q * r = z at *
  generalize q * s = u at *
  rw [w64_id (n := x) (by omega) (by omega), w64_id (n := y) (by omega) (by omega), w64_id (n := z) (by omega) (by omega), w64_id (n := u) (by omega) (by omega), w64_id (n := y + z) (by omega) (by omega)]
  rw [Int.tdiv_eq_ediv_of_nonneg (a := y + z) (by omega), Int.tmod_eq_emod_of_nonneg (a := y + z) (by omega)]
  rw [w64_id (n := (y + z) / 1000000000) (by omega) (by omega), w64_id (n := (y + z) % 1000000000 * 1000000000) (by omega) (by omega), w64_id (n := u + (y + z) % 1000000000 * 1000000000) (by omega) (by omega)]
  rw [Int.tdiv_eq_ediv_of_nonneg (by omega), Int.tmod_eq_emod_of_nonneg (by omega)]
  rw [w64_id (n := (u + (y + z) % 1000000000 * 1000000000) / 1000000000000000000) (by omega) (by omega), w64_id (n := x + (y + z) / 1000000000) (by omega) (by omega), w64_id (by omega) (by omega)]
  omega
def E18 : Int := 1000000000000000000
theorem habs (x : Int) : maxI x (0 - x) = if x < 0 then -x else x := by unfold maxI; split <;> split <;> omega
theorem wneg_law {h l : Int} (hl : 0 ≤ l ∧ l < 1000000000000000000) (hh : 0 ≤ h ∧ h ≤ 1000000000000000000) : wneg (h, l) = ((-(h * 1000000000000000000 + l) / 1000000000000000000, -(h * 1000000000000000000 + l) % 1000000000000000000), 0) := by
  have w : ∀ h l : Int, 0 ≤ l ∧ l < 1000000000000000000 → -4000000000000000000 ≤ h ∧ h ≤ 4000000000000000000 → wis (h, l) = true := fun h l h1 h2 => by
    unfold wis
    simp only [ge_iff_le, h1.1, h1.2, h2.1, h2.2, if_true, decide_true]
  unfold wneg
  rw [w h l hl (by omega)]
  dsimp only [letV]
  rw [if_neg (by decide)]
  by_cases h0 : l = 0
  · subst h0
    rw [if_pos (by rfl), w64_id (by omega) (by omega)]
    congr 1
    exact Prod.ext (by dsimp only; omega) (by dsimp only; omega)
  · rw [if_neg (by simpa using h0), w64_id (n := 0 - h) (by omega) (by omega), w64_id (n := 0 - h - 1) (by omega) (by omega), w64_id (n := 1000000000000000000 - l) (by omega) (by omega)]
    unfold wright
    rw [w _ _ (by omega) (by omega)]
    dsimp only [letV]
    rw [if_neg (by decide)]
    congr 1
    exact Prod.ext (by dsimp only; omega) (by dsimp only; omega)
theorem wmul_law {a b : Int} (ha : -1000000000000000000 ≤ a ∧ a ≤ 1000000000000000000) (hb : -1000000000000000000 ≤ b ∧ b ≤ 1000000000000000000) :
    wmul (a, b) = ((a * b / 1000000000000000000, a * b % 1000000000000000000), 0) := by
  unfold wmul
  have h1 : ¬ maxI a b > 1000000000000000000 := by unfold maxI; split <;> omega
  have h2 : ¬ minI a b < -1000000000000000000 := by unfold minI; split <;> omega
  dsimp only
  rw [if_neg h1, if_neg h2]
  unfold halves
  dsimp only [letV]
  rw [w64_id (n := 0 - a) (by omega) (by omega), w64_id (n := 0 - b) (by omega) (by omega), habs, habs]
  obtain ⟨e1, e2⟩ := mu_eq (A := if a < 0 then -a else a) (B := if b < 0 then -b else b) (by split <;> omega) (by split <;> omega) (by split <;> omega) (by split <;> omega)
  have g1 : ∀ x y : Int, muH x y = w64 (w64 (w64 (w64 (x.tdiv 1000000000) * w64 (y.tdiv 1000000000)) + w64 ((w64 (w64 (w64 (x.tdiv 1000000000) * y.tmod 1000000000) + w64 (x.tmod 1000000000 * w64 (y.tdiv 1000000000)))).tdiv 1000000000)) + w64 ((w64 (w64 (x.tmod 1000000000 * y.tmod 1000000000) + w64 ((w64 (w64 (w64 (x.tdiv 1000000000) * y.tmod 1000000000) + w64 (x.tmod 1000000000 * w64 (y.tdiv 1000000000)))).tmod 1000000000 * 1000000000))).tdiv 1000000000000000000)) := fun _ _ => rfl
  have g2 : ∀ x y : Int, muL x y = (w64 (w64 (x.tmod 1000000000 * y.tmod 1000000000) + w64 ((w64 (w64 (w64 (x.tdiv 1000000000) * y.tmod 1000000000) + w64 (x.tmod 1000000000 * w64 (y.tdiv 1000000000)))).tmod 1000000000 * 1000000000))).tmod 1000000000000000000 := fun _ _ => rfl
  rw [← g1, ← g2, e1, e2]
  by_cases hs : decide (a < 0) = decide (b < 0)
  · rw [if_neg (by rw [hs]; simp)]
    have hm : (if a < 0 then -a else a) * (if b < 0 then -b else b) = a * b := by
      by_cases h : a < 0
      · have : b < 0 := by simpa [h] using hs
        simp only [h, this, if_true, Int.neg_mul_neg]
      · have : ¬ b < 0 := by simpa [h] using hs
        simp only [h, this, if_false]
    rw [hm]
  · rw [if_pos (by simpa using hs)]
    have hm : (if a < 0 then -a else a) * (if b < 0 then -b else b) = -(a * b) := by
      by_cases h : a < 0
      · have : ¬ b < 0 := by simpa [h] using hs
        simp only [h, this, if_true, if_false, Int.neg_mul]
      · have : b < 0 := by simpa [h] using hs
        simp only [h, this, if_true, if_false, Int.mul_neg]
    have hm2 := mulb (a := a) (b := b) (A := 1000000000000000000) (B := 1000000000000000000) (by omega) (by omega) (by omega) (by omega)
    have hn : 0 ≤ -(a * b) := by rw [← hm]; exact Int.mul_nonneg (by split <;> omega) (by split <;> omega)
    rw [hm]
    generalize a * b = x at *
    rw [wneg_law (by omega) (by omega)]
    congr 1
    exact Prod.ext (by dsimp only; omega) (by dsimp only; omega)
theorem cor_law (x : List Int) (hl : x.length < 4611686018427387904) : cor_pre x ∧ cor x = (x.find? (· != 0)).getD 0 := by
  obtain ⟨h1, h2⟩ := row_loop x (cor_l0_step x) (cor_l0_pre x) (fun l => match l.find? (· != 0) with | some v => Sum.inl v | none => .inr ()) (fun i hi => by
    unfold cor_l0_pre
    intro h
    simp only [Int.toNat_natCast]; omega) (fun i v hv => by
    have hlt := lt_of_get hv
    rw [drop_of hv]
    unfold cor_l0_step
    rw [if_pos (by omega), Int.toNat_natCast, getD_of hv, List.find?_cons]
    by_cases hb : (v != 0) = true
    · rw [if_pos hb, hb]; exact .inr rfl
    · rw [if_neg hb, w64_id (by omega) (by omega)]
      rw [Bool.not_eq_true] at hb
      rw [hb]; exact .inl ⟨rfl, rfl⟩) (by unfold cor_l0_step; rw [if_neg (by omega)]; rfl)
  refine ⟨h1, ?_⟩
  unfold cor
  rw [h2]
  dsimp only [letV]
  cases x.find? (· != 0) <;> rfl
theorem cor_two (a b : Int) : cor [a, b] = if a = 0 then b else a := by
  rw [(cor_law [a, b] (by simp)).2]
  by_cases h : a = 0
  · subst h
    by_cases h2 : b = 0
    · subst h2; rfl
    · simp [List.find?_cons, h2]
  · simp [List.find?_cons, h]
theorem wcmp_tm (x : (Int × Int) × (Int × Int)) : wcmp_pre x := fun _ => (cor_law _ (by simp)).1
theorem sg_zero : sg 0 = 0 := rfl
theorem wcmp_law (a b : Int × Int) : wcmp (a, b) = if sg (a.1 - b.1) = 0 then sg (a.2 - b.2) else sg (a.1 - b.1) := by
  unfold wcmp
  dsimp only [letV]
  rw [compare_law, compare_law, cor_two]
  split
  · rename_i h
    simp only [Bool.and_true, Bool.and_eq_true, beq_iff_eq] at h
    rw [h.1, h.2, Int.sub_self, Int.sub_self]; rfl
  · rfl
/-! ### Fractions -/
abbrev Fr (a : Int × Int) : Prop := (1 ≤ a.2 ∧ a.2 ≤ 1000000000000000000) ∧ -1000000000000000000 ≤ a.1 ∧ a.1 ≤ 1000000000000000000
theorem fto_tm (x : (Int × Int) × (Int × Int)) : fto_pre x :=
  ⟨fun _ => ⟨fun _ => wcmp_tm _, fun _ _ _ => (cor_law _ (by simp)).1⟩, fun _ _ _ => (cor_law _ (by simp)).1⟩
theorem fcmp_law {a b : Int × Int} (ha : Fr a) (hb : Fr b) : fcmp (a, b) = sg (a.1 * b.2 - b.1 * a.2) := by
  have hr : ∀ a : Int × Int, Fr a → fright a = true := fun a ha => by
    unfold fright
    rw [if_pos (by omega), if_pos (by omega), if_pos (by omega)]
    exact decide_eq_true (by omega)
  unfold fcmp fto
  rw [hr a ha, hr b hb]
  dsimp only [letV]
  rw [if_pos rfl, if_pos rfl, wmul_law (by omega) (by omega), wmul_law (by omega) (by omega), wcmp_law]
  dsimp only
  generalize a.1 * b.2 = x
  generalize b.1 * a.2 = y
  unfold sg
  split <;> (try split) <;> (try split) <;> (try split) <;> (try split) <;> omega
/-! ### Rounded down -/
def xneg (r b : Int) : Bool := decide (w64 ((BitVec.ofInt 64 r ^^^ BitVec.ofInt 64 b).toNat : Nat) < 0)
theorem w64_toInt (x : BitVec 64) : w64 (x.toNat : Nat) = x.toInt := by
  rw [w64, IntKind.wrap_i64, BitVec.toInt_eq_toNat_cond]
  have := x.isLt
  split <;> omega
theorem xneg_iff {r b : Int} (h1 : -9223372036854775808 ≤ r) (h2 : r ≤ 9223372036854775807) (h3 : -9223372036854775808 ≤ b) (h4 : b ≤ 9223372036854775807) : xneg r b = (decide (r < 0) ^^ decide (b < 0)) := by
  have hm : ∀ n : Int, -9223372036854775808 ≤ n → n ≤ 9223372036854775807 → (BitVec.ofInt 64 n).msb = decide (n < 0) := fun n h h' => by
    rw [BitVec.msb_eq_toInt, BitVec.toInt_ofInt, Int.bmod_eq_of_le (by omega) (by omega)]
  unfold xneg
  rw [w64_toInt, ← BitVec.msb_eq_toInt, BitVec.msb_xor, hm r h1 h2, hm b h3 h4]
theorem tdm {a b : Int} (hb : 0 < b) : (a.tmod b ≠ 0 ∧ a < 0 → a.tdiv b = a / b + 1 ∧ a.tmod b = a % b - b) ∧ (¬ (a.tmod b ≠ 0 ∧ a < 0) → a.tdiv b = a / b ∧ a.tmod b = a % b) := by
  have h1 := Int.mul_tdiv_add_tmod a b
  have h2 := Int.mul_ediv_add_emod a b
  have h3 := Int.emod_nonneg a (show b ≠ 0 by omega)
  have h4 := Int.emod_lt_of_pos a hb
  by_cases ha : 0 ≤ a
  · have e1 := Int.tdiv_eq_ediv_of_nonneg (b := b) ha
    have e2 := Int.tmod_eq_emod_of_nonneg (b := b) ha
    refine ⟨fun h => by omega, fun _ => ⟨e1, e2⟩⟩
  · have e0 : a.tdiv b = if a % b = 0 then a / b else a / b + 1 := by
      rw [Int.tdiv_eq_ediv]
      have : (0 ≤ a ∨ b ∣ a) ↔ a % b = 0 := ⟨fun h => h.elim (fun h => by omega) Int.emod_eq_zero_of_dvd, fun h => .inr (Int.dvd_of_emod_eq_zero h)⟩
      have hs : b.sign = 1 := Int.sign_eq_one_of_pos hb
      simp only [this, hs]
      split <;> simp
    have e2 : a.tmod b = if a % b = 0 then 0 else a % b - b := by
      rw [e0] at h1
      split at h1 <;> rename_i hz
      · rw [if_pos hz]; omega
      · rw [if_neg hz]
        rw [Int.mul_add] at h1; omega
    rw [e0, e2]
    by_cases hz : a % b = 0
    · simp [hz]
    · simp only [hz, if_false]
      refine ⟨fun _ => by simp, fun h => absurd ⟨by omega, by omega⟩ h⟩
theorem wfloor_tm (x : Int × Int) : wfloor_pre x := by
  unfold wfloor_pre over letP
  intro h
  have h0 : x.2 ≠ 0 := fun h0 => h (by simp [h0])
  exact ⟨h0, h0⟩
theorem wfloor_law {a b : Int} (h1 : -9223372036854775808 ≤ a) (h2 : a ≤ 9223372036854775807) (hb : 0 < b) (hb2 : b ≤ 9223372036854775807) : wfloor (a, b) = (a / b, (a % b, 0)) := by
  have ho : over (a, b) = 0 := by
    unfold over
    dsimp only
    rw [if_neg (by simp; omega)]
    split
    · rw [if_neg (by simp; omega)]
    · rfl
  have h3 := Int.emod_nonneg a (show b ≠ 0 by omega)
  have h4 := Int.emod_lt_of_pos a hb
  have h6 := Int.mul_ediv_add_emod a b
  have h5 : -9223372036854775808 ≤ a / b ∧ a / b ≤ 9223372036854775807 := by
    by_cases ha : 0 ≤ a
    · have := Int.ediv_nonneg ha (show 0 ≤ b by omega)
      have := Int.ediv_le_self b ha
      omega
    · have hq := Int.ediv_neg_of_neg_of_pos (show a < 0 by omega) hb
      have e := Int.mul_nonneg (show 0 ≤ b - 1 by omega) (show 0 ≤ -(a / b) - 1 by omega)
      have e' : (b - 1) * (-(a / b) - 1) = -(b * (a / b)) - b + a / b + 1 := by grind
      omega
  obtain ⟨t1, t2⟩ := tdm (a := a) hb
  have hx : ∀ r : Int, -9223372036854775808 ≤ r → r ≤ 9223372036854775807 → (w64 (((BitVec.toNat ((BitVec.ofInt 64 r) ^^^ (BitVec.ofInt 64 b))) : Nat) : Int) < 0 ↔ r < 0) := fun r hr hr2 => by
    have := xneg_iff hr hr2 (show -9223372036854775808 ≤ b by omega) hb2
    unfold xneg at this
    simp only [show ¬ b < 0 by omega, decide_false, Bool.xor_false, decide_eq_decide] at this
    exact this
  unfold wfloor
  rw [ho]
  dsimp only [letV]
  rw [if_neg (by decide)]
  by_cases hc : a.tmod b ≠ 0 ∧ a < 0
  · obtain ⟨e1, e2⟩ := t1 hc
    rw [if_pos (by simpa using hc.1), if_pos ((hx _ (by omega) (by omega)).2 (by omega)), e1, e2]
    have hn : a / b < 0 := Int.ediv_neg_of_neg_of_pos hc.2 hb
    rw [w64_id (n := a / b + 1) (by omega) (by omega), w64_id (by omega) (by omega), w64_id (by omega) (by omega)]
    congr 1
    · omega
    · congr 1; omega
  · obtain ⟨e1, e2⟩ := t2 hc
    have hfin : (w64 (a.tdiv b), (a.tmod b, (0 : Int))) = (a / b, (a % b, 0)) := by rw [e1, e2, w64_id (by omega) (by omega)]
    split
    · rename_i hne
      rw [if_neg (fun h => by
        have h := (hx _ (by omega) (by omega)).1 h
        omega)]
      exact hfin
    · exact hfin
theorem floor_law {a b : Int} (h1 : -9223372036854775808 ≤ a) (h2 : a ≤ 9223372036854775807) (hb : 0 < b) (hb2 : b ≤ 9223372036854775807) : floor (a, b) = a / b := by
  unfold floor
  rw [wfloor_law h1 h2 hb hb2]; rfl
/-! ### An edge's foot -/
def Sq (p a : Int × Int) : Int := (p.1 - a.1) * (p.1 - a.1) + (p.2 - a.2) * (p.2 - a.2)
def Dot (p a b : Int × Int) : Int := (p.1 - a.1) * (b.1 - a.1) + (p.2 - a.2) * (b.2 - a.2)
theorem sq_nonneg (a : Int) : 0 ≤ a * a := by
  rcases Int.le_total 0 a with h | h
  · exact Int.mul_nonneg h h
  · exact Int.mul_nonneg_of_nonpos_of_nonpos h h
theorem sq_in {p a : Int × Int} (hp : Sm p) (ha : Sm a) : 0 ≤ Sq p a ∧ Sq p a ≤ 134217728 := by
  have m1 := mulb (a := p.1 - a.1) (b := p.1 - a.1) (A := 8192) (B := 8192) (by omega) (by omega) (by omega) (by omega)
  have m2 := mulb (a := p.2 - a.2) (b := p.2 - a.2) (A := 8192) (B := 8192) (by omega) (by omega) (by omega) (by omega)
  have s1 := sq_nonneg (p.1 - a.1)
  have s2 := sq_nonneg (p.2 - a.2)
  unfold Sq; omega
theorem dot_in {p a b : Int × Int} (hp : Sm p) (ha : Sm a) (hb : Sm b) : -134217728 ≤ Dot p a b ∧ Dot p a b ≤ 134217728 := by
  have m1 := mulb (a := p.1 - a.1) (b := b.1 - a.1) (A := 8192) (B := 8192) (by omega) (by omega) (by omega) (by omega)
  have m2 := mulb (a := p.2 - a.2) (b := b.2 - a.2) (A := 8192) (B := 8192) (by omega) (by omega) (by omega) (by omega)
  unfold Dot; omega
theorem dot_law {u v : Int × Int} (h1 : -8192 ≤ u.1 ∧ u.1 ≤ 8192) (h2 : -8192 ≤ u.2 ∧ u.2 ≤ 8192) (h3 : -8192 ≤ v.1 ∧ v.1 ≤ 8192) (h4 : -8192 ≤ v.2 ∧ v.2 ≤ 8192) : dot (u, v) = u.1 * v.1 + u.2 * v.2 := by
  have m1 := mulb (a := u.1) (b := v.1) (A := 8192) (B := 8192) (by omega) (by omega) (by omega) (by omega)
  have m2 := mulb (a := u.2) (b := v.2) (A := 8192) (B := 8192) (by omega) (by omega) (by omega) (by omega)
  unfold dot
  dsimp only
  rw [w64_id (n := u.1 * v.1) (by omega) (by omega), w64_id (n := u.2 * v.2) (by omega) (by omega), w64_id (by omega) (by omega)]
theorem nend_law {p a : Int × Int} (k : Int) (hp : Sm p) (ha : Sm a) : nend (p, (a, k)) = (a, (k, (Sq p a, 1))) := by
  unfold nend
  dsimp only [letV]
  rw [sub2_law hp ha, dot_law (by dsimp only; omega) (by dsimp only; omega) (by dsimp only; omega) (by dsimp only; omega)]
  rfl
def Foot (p a b : Int × Int) : (Int × Int) × (Int × (Int × Int)) :=
  if Dot p a b ≤ 0 ∨ Sq b a = 0 then (a, (0, (Sq p a, 1)))
  else if Sq b a ≤ Dot p a b then (b, (1, (Sq p b, 1)))
  else ((a.1 + (b.1 - a.1) * Dot p a b / Sq b a, a.2 + (b.2 - a.2) * Dot p a b / Sq b a), (2, (Det a b p * Det a b p, Sq b a)))
theorem find_tm {x : (Int × Int) × ((Int × Int) × (Int × Int))} : find_pre x :=
  ⟨sub2_tm _, sub2_tm _, fun _ => sub2_tm _, fun _ => ⟨fun _ => sub2_tm _, fun _ => ⟨fun _ => sub2_tm _, fun _ => ⟨(sarea_law _ _ _).1, wfloor_tm _, wfloor_tm _⟩⟩⟩⟩
/-- What is between: a part of a way, rounded down. -/
theorem part_in {d m n : Int} (hm : 0 < m) (hn : m < n) : (0 ≤ d → 0 ≤ d * m / n ∧ d * m / n ≤ d) ∧ (d ≤ 0 → d ≤ d * m / n ∧ d * m / n ≤ 0) := by
  have e := Int.mul_ediv_add_emod (d * m) n
  have e1 := Int.emod_nonneg (d * m) (show n ≠ 0 by omega)
  have e2 := Int.emod_lt_of_pos (d * m) (show 0 < n by omega)
  refine ⟨fun hd => ⟨Int.ediv_nonneg (Int.mul_nonneg hd (by omega)) (by omega), ?_⟩, fun hd => ⟨?_, ?_⟩⟩
  · have h1 : d * m ≤ d * n := Int.mul_le_mul_of_nonneg_left (by omega) hd
    exact Int.ediv_le_of_le_mul (by omega) h1
  · have h1 : d * n ≤ d * m := Int.mul_le_mul_of_nonpos_left hd (by omega)
    exact Int.le_ediv_of_mul_le (by omega) h1
  · have h1 : d * m ≤ 0 * n := by
      have := Int.mul_nonneg (show 0 ≤ -d by omega) (show 0 ≤ m by omega)
      have e3 : -d * m = -(d * m) := Int.neg_mul d m
      omega
    exact Int.ediv_le_of_le_mul (by omega) h1
theorem find_law {p a b : Int × Int} (hp : Sm p) (ha : Sm a) (hb : Sm b) : find (p, (a, b)) = Foot p a b := by
  have hd := dot_in hp ha hb
  have hs := sq_in hb ha
  unfold find Foot
  dsimp only [letV]
  rw [sub2_law hp ha, sub2_law hb ha, dot_law (by dsimp only; omega) (by dsimp only; omega) (by dsimp only; omega) (by dsimp only; omega), dot_law (by dsimp only; omega) (by dsimp only; omega) (by dsimp only; omega) (by dsimp only; omega)]
  have hA : sarea (a, (b, p)) = (Det a b p, 0) := by rw [(sarea_law a b p).2, if_pos ⟨ha, hb, hp⟩]
  rw [nend_law 0 hp ha, nend_law 1 hp hb, hA]
  have e1 : (p.1 - a.1) * (b.1 - a.1) + (p.2 - a.2) * (b.2 - a.2) = Dot p a b := rfl
  have e2 : (b.1 - a.1) * (b.1 - a.1) + (b.2 - a.2) * (b.2 - a.2) = Sq b a := rfl
  rw [e1, e2]
  by_cases h1 : Dot p a b ≤ 0
  · rw [if_pos h1, if_pos (.inl h1)]
  · by_cases h2 : Sq b a = 0
    · rw [if_neg h1, if_pos (by simpa using h2), if_pos (.inr h2)]
    · rw [if_neg h1, if_neg (by simpa using h2), if_neg (c := Dot p a b ≤ 0 ∨ Sq b a = 0) (by omega)]
      by_cases h3 : Sq b a ≤ Dot p a b
      · rw [if_pos h3, if_pos h3]
      · rw [if_neg h3, if_neg h3]
        have m1 := mulb (a := b.1 - a.1) (b := Dot p a b) (A := 8192) (B := 134217728) (by omega) (by omega) (by omega) (by omega)
        have m2 := mulb (a := b.2 - a.2) (b := Dot p a b) (A := 8192) (B := 134217728) (by omega) (by omega) (by omega) (by omega)
        have dt := det_in ha hb hp
        have m3 := mulb (a := Det a b p) (b := Det a b p) (A := 134217728) (B := 134217728) (by omega) (by omega) (by omega) (by omega)
        rw [w64_id (n := (b.1 - a.1) * Dot p a b) (by omega) (by omega), w64_id (n := (b.2 - a.2) * Dot p a b) (by omega) (by omega), floor_law (by omega) (by omega) (by omega) (by omega), floor_law (by omega) (by omega) (by omega) (by omega)]
        have q1 := part_in (d := b.1 - a.1) (show 0 < Dot p a b by omega) (show Dot p a b < Sq b a by omega)
        have q2 := part_in (d := b.2 - a.2) (show 0 < Dot p a b by omega) (show Dot p a b < Sq b a by omega)
        rw [w64_id (n := a.1 + _) (by rcases Int.le_total 0 (b.1 - a.1) with h | h <;> omega) (by rcases Int.le_total 0 (b.1 - a.1) with h | h <;> omega), w64_id (n := a.2 + _) (by rcases Int.le_total 0 (b.2 - a.2) with h | h <;> omega) (by rcases Int.le_total 0 (b.2 - a.2) with h | h <;> omega)]
        dsimp only
        rw [w64_id (by omega) (by omega)]
end Go.Proofs.YtfgdjlhilladhaaGreat
