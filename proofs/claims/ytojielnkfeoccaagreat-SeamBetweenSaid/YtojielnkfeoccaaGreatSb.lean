/- Plain laws of seam: places along an edge, level values. -/
import Derived.Test.YtojielnkfeoccaaGreatQ0
import Derived.Test.YtojielnkfeoccaaGreatSc
namespace Go.Proofs.YtojielnkfeoccaaGreat
open Go Go.Ev Go.Proofs
theorem within_law (m : Int) (hm : 0 ≤ m) (hm2 : m < 4611686018427387904) (x : List Int) (hl : x.length < 4611686018427387904) : within_pre (m, x) ∧ within (m, x) = !x.any (fun v => decide (v < -m) || decide (v > m)) := by
  refine all_loop x hl _ _ _ (fun i hi => ?_) (fun i v hv => ?_) ?_
  · unfold within_l0_pre
    intro h
    simp only [Int.toNat_natCast]; dsimp only at h ⊢; omega
  · have hlt := lt_of_get hv
    unfold within_l0_step
    rw [if_pos (by dsimp only; omega), Int.toNat_natCast]
    dsimp only
    rw [getD_of hv, w64_id (n := 0 - m) (by omega) (by omega), show 0 - m = -m by omega]
    by_cases h1 : v < -m
    · simp [h1]
    · by_cases h2 : v > m
      · simp [h1, h2]
      · simp [h1, h2]
  · unfold within_l0_step
    rw [if_neg (by dsimp only; omega)]
abbrev Sm (p : Int × Int) : Prop := (-4096 ≤ p.1 ∧ p.1 ≤ 4096) ∧ (-4096 ≤ p.2 ∧ p.2 ≤ 4096)
theorem notAny {α : Type} {l : List α} {bad : α → Bool} {P : α → Prop} [DecidablePred P] (h : ∀ x, bad x = !decide (P x)) : (!l.any bad) = decide (∀ x ∈ l, P x) := by
  rw [Bool.eq_iff_iff]
  simp [h]
theorem small2_law (x : List (Int × Int)) (hl : x.length < 4611686018427387904) : small2_pre x ∧ small2 x = decide (∀ p ∈ x, Sm p) := by
  have hn : ∀ a b : Int, within (4096, [a, b]) = decide (Sm (a, b)) := fun a b => by
    rw [(within_law 4096 (by omega) (by omega) [a, b] (by simp)).2, Bool.eq_iff_iff]; simp
  rw [← notAny (bad := fun p => !decide (Sm p)) (fun _ => rfl)]
  refine all_loop x hl _ _ _ (fun i hi => ?_) (fun i v hv => ?_) ?_
  · unfold small2_l0_pre
    intro h
    simp only [Int.toNat_natCast]
    exact ⟨by omega, by omega, by omega, (within_law 4096 (by omega) (by omega) _ (by simp)).1⟩
  · have hlt := lt_of_get hv
    unfold small2_l0_step
    rw [if_pos (by omega), Int.toNat_natCast, getD_of hv]
    unfold letV
    rw [hn]
  · unfold small2_l0_step
    rw [if_neg (by omega)]
theorem small2_one (a : Int × Int) : small2 [a] = decide (Sm a) := by
  rw [(small2_law _ (by simp)).2, Bool.eq_iff_iff, decide_eq_true_iff, decide_eq_true_iff]
  simp only [List.mem_cons, List.not_mem_nil, or_false, forall_eq]
def xneg (r b : Int) : Bool := decide (w64 ((BitVec.ofInt 64 r ^^^ BitVec.ofInt 64 b).toNat : Nat) < 0)
theorem w64_toInt (x : BitVec 64) : w64 (x.toNat : Nat) = x.toInt := by
  rw [w64, IntKind.wrap_i64, BitVec.toInt_eq_toNat_cond]
  have := x.isLt
  split <;> omega
theorem xneg_iff {r b : Int} (h1 : -9223372036854775808 ≤ r) (h2 : r ≤ 9223372036854775807) (h3 : -9223372036854775808 ≤ b) (h4 : b ≤ 9223372036854775807) : xneg r b = (decide (r < 0) ^^ decide (b < 0)) := by
  have hm : ∀ n : Int, -9223372036854775808 ≤ n → n ≤ 9223372036854775807 → (BitVec.ofInt 64 n).msb = decide (n < 0) := fun n h h' => by
    rw [BitVec.msb_eq_toInt, BitVec.toInt_ofInt, Int.bmod_eq_of_le (by omega) (by omega)]
  unfold xneg
  rw [w64_toInt, ← BitVec.msb_eq_toInt, BitVec.msb_xor, hm r h1 h2, hm b h3 h4]
theorem tdm {a b : Int} (hb : 0 < b) : (a.tmod b ≠ 0 ∧ a < 0 → a.tdiv b = a / b + 1 ∧ a.tmod b = a % b - b) ∧ (¬ (a.tmod b ≠ 0 ∧ a < 0) → a.tdiv b = a / b ∧ a.tmod b = a % b) := by
  have h1 := Int.mul_tdiv_add_tmod a b
  have h2 := Int.mul_ediv_add_emod a b
  have h3 := Int.emod_nonneg a (show b ≠ 0 by omega)
  have h4 := Int.emod_lt_of_pos a hb
  by_cases ha : 0 ≤ a
  · have e1 := Int.tdiv_eq_ediv_of_nonneg (b := b) ha
    have e2 := Int.tmod_eq_emod_of_nonneg (b := b) ha
    refine ⟨fun h => by omega, fun _ => ⟨e1, e2⟩⟩
  · have e0 : a.tdiv b = if a % b = 0 then a / b else a / b + 1 := by
      rw [Int.tdiv_eq_ediv]
      have : (0 ≤ a ∨ b ∣ a) ↔ a % b = 0 := ⟨fun h => h.elim (fun h => by omega) Int.emod_eq_zero_of_dvd, fun h => .inr (Int.dvd_of_emod_eq_zero h)⟩
      have hs : b.sign = 1 := Int.sign_eq_one_of_pos hb
      simp only [this, hs]
      split <;> simp
    have e2 : a.tmod b = if a % b = 0 then 0 else a % b - b := by
      rw [e0] at h1
      split at h1 <;> rename_i hz
      · rw [if_pos hz]; omega
      · rw [if_neg hz]
        rw [Int.mul_add] at h1; omega
    rw [e0, e2]
    by_cases hz : a % b = 0
    · simp [hz]
    · simp only [hz, if_false]
      refine ⟨fun _ => by simp, fun h => absurd ⟨by omega, by omega⟩ h⟩
theorem wfloor_tm (x : Int × Int) : wfloor_pre x := by
  unfold wfloor_pre over letP
  intro h
  have h0 : x.2 ≠ 0 := fun h0 => h (by simp [h0])
  exact ⟨h0, h0⟩
theorem wfloor_law {a b : Int} (h1 : -9223372036854775808 ≤ a) (h2 : a ≤ 9223372036854775807) (hb : 0 < b) (hb2 : b ≤ 9223372036854775807) : wfloor (a, b) = (a / b, (a % b, 0)) := by
  have ho : over (a, b) = 0 := by
    unfold over
    dsimp only
    rw [if_neg (by simp; omega)]
    split
    · rw [if_neg (by simp; omega)]
    · rfl
  have h3 := Int.emod_nonneg a (show b ≠ 0 by omega)
  have h4 := Int.emod_lt_of_pos a hb
  have h6 := Int.mul_ediv_add_emod a b
  have h5 : -9223372036854775808 ≤ a / b ∧ a / b ≤ 9223372036854775807 := by
    by_cases ha : 0 ≤ a
    · have := Int.ediv_nonneg ha (show 0 ≤ b by omega)
      have := Int.ediv_le_self b ha
      omega
    · have hq := Int.ediv_neg_of_neg_of_pos (show a < 0 by omega) hb
      have e := Int.mul_nonneg (show 0 ≤ b - 1 by omega) (show 0 ≤ -(a / b) - 1 by omega)
      have e' : (b - 1) * (-(a / b) - 1) = -(b * (a / b)) - b + a / b + 1 := by grind
      omega
  obtain ⟨t1, t2⟩ := tdm (a := a) hb
  have hx : ∀ r : Int, -9223372036854775808 ≤ r → r ≤ 9223372036854775807 → (w64 (((BitVec.toNat ((BitVec.ofInt 64 r) ^^^ (BitVec.ofInt 64 b))) : Nat) : Int) < 0 ↔ r < 0) := fun r hr hr2 => by
    have := xneg_iff hr hr2 (show -9223372036854775808 ≤ b by omega) hb2
    unfold xneg at this
    simp only [show ¬ b < 0 by omega, decide_false, Bool.xor_false, decide_eq_decide] at this
    exact this
  unfold wfloor
  rw [ho]
  dsimp only [letV]
  rw [if_neg (by decide)]
  by_cases hc : a.tmod b ≠ 0 ∧ a < 0
  · obtain ⟨e1, e2⟩ := t1 hc
    rw [if_pos (by simpa using hc.1), if_pos ((hx _ (by omega) (by omega)).2 (by omega)), e1, e2]
    have hn : a / b < 0 := Int.ediv_neg_of_neg_of_pos hc.2 hb
    rw [w64_id (n := a / b + 1) (by omega) (by omega), w64_id (by omega) (by omega), w64_id (by omega) (by omega)]
    congr 1
    · omega
    · congr 1; omega
  · obtain ⟨e1, e2⟩ := t2 hc
    have hfin : (w64 (a.tdiv b), (a.tmod b, (0 : Int))) = (a / b, (a % b, 0)) := by rw [e1, e2, w64_id (by omega) (by omega)]
    split
    · rename_i hne
      rw [if_neg (fun h => by
        have h := (hx _ (by omega) (by omega)).1 h
        omega)]
      exact hfin
    · exact hfin
/-- What is between: a part of a way, rounded down. -/
theorem part_in {d m n : Int} (hm : 0 < m) (hn : m < n) : (0 ≤ d → 0 ≤ d * m / n ∧ d * m / n ≤ d) ∧ (d ≤ 0 → d ≤ d * m / n ∧ d * m / n ≤ 0) := by
  have e := Int.mul_ediv_add_emod (d * m) n
  have e1 := Int.emod_nonneg (d * m) (show n ≠ 0 by omega)
  have e2 := Int.emod_lt_of_pos (d * m) (show 0 < n by omega)
  refine ⟨fun hd => ⟨Int.ediv_nonneg (Int.mul_nonneg hd (by omega)) (by omega), ?_⟩, fun hd => ⟨?_, ?_⟩⟩
  · have h1 : d * m ≤ d * n := Int.mul_le_mul_of_nonneg_left (by omega) hd
    exact Int.ediv_le_of_le_mul (by omega) h1
  · have h1 : d * n ≤ d * m := Int.mul_le_mul_of_nonpos_left hd (by omega)
    exact Int.le_ediv_of_mul_le (by omega) h1
  · have h1 : d * m ≤ 0 * n := by
      have := Int.mul_nonneg (show 0 ≤ -d by omega) (show 0 ≤ m by omega)
      have e3 : -d * m = -(d * m) := Int.neg_mul d m
      omega
    exact Int.ediv_le_of_le_mul (by omega) h1
/-! ### Along -/
def Alo (a b s : Int) : Int := a + (b - a) * s / 8
theorem along_law (a b : Int × Int) (s : Int) : along_pre (a, (b, s)) ∧ along (a, (b, s)) = if Sm a ∧ Sm b ∧ 0 ≤ s ∧ s ≤ 8 then ((Alo a.1 b.1 s, Alo a.2 b.2 s), 0) else ((0, 0), 5) := by
  have hs2 : small2 [a, b] = decide (Sm a ∧ Sm b) := by rw [(small2_law _ (by simp)).2]; simp
  refine ⟨⟨(small2_law _ (by simp)).1, fun _ _ _ => ⟨wfloor_tm _, wfloor_tm _⟩⟩, ?_⟩
  unfold along
  dsimp only [letV]
  rw [hs2]
  by_cases h : Sm a ∧ Sm b
  · rw [decide_eq_true h, if_neg (by decide)]
    obtain ⟨h1, h2⟩ := h
    by_cases h3 : s < 0
    · rw [if_pos h3, if_neg (by omega)]
    · rw [if_neg h3]
      by_cases h4 : s > 8
      · rw [if_pos h4, if_neg (by omega)]
      · rw [if_neg h4, if_pos ⟨h1, h2, by omega, by omega⟩]
        have m1 := mulb (a := b.1 - a.1) (b := s) (A := 8192) (B := 8) (by omega) (by omega) (by omega) (by omega)
        have m2 := mulb (a := b.2 - a.2) (b := s) (A := 8192) (B := 8) (by omega) (by omega) (by omega) (by omega)
        rw [w64_id (n := b.1 - a.1) (by omega) (by omega), w64_id (n := b.2 - a.2) (by omega) (by omega), w64_id (n := (b.1 - a.1) * s) (by omega) (by omega), w64_id (n := (b.2 - a.2) * s) (by omega) (by omega),
          wfloor_law (by omega) (by omega) (by decide) (by decide), wfloor_law (by omega) (by omega) (by decide) (by decide)]
        dsimp only
        rw [w64_id (by omega) (by omega), w64_id (by omega) (by omega)]
        rfl
  · rw [decide_eq_false h, if_pos (by decide), if_neg (fun q => h ⟨q.1, q.2.1⟩)]
theorem alo_in (a b s : Int) (h0 : 0 ≤ s) (h8 : s ≤ 8) : minI a b ≤ Alo a b s ∧ Alo a b s ≤ maxI a b := by
  have e1 : (b - a) * s = (b - a) * s := rfl
  unfold Alo minI maxI
  rcases Int.le_total a b with h | h
  · have m1 := Int.mul_le_mul_of_nonneg_left h8 (show 0 ≤ b - a by omega)
    have m2 := Int.mul_nonneg (show 0 ≤ b - a by omega) h0
    split <;> split <;> omega
  · have m1 := Int.mul_le_mul_of_nonneg_left h8 (show 0 ≤ a - b by omega)
    have m2 := Int.mul_nonneg (show 0 ≤ a - b by omega) h0
    have e : (b - a) * s = -((a - b) * s) := by rw [← Int.neg_mul]; congr 1; omega
    split <;> split <;> omega
theorem alo_0 (a b : Int) : Alo a b 0 = a := by unfold Alo; simp
theorem alo_8 (a b : Int) : Alo a b 8 = b := by unfold Alo; omega
theorem alo_same (a s : Int) : Alo a a s = a := by unfold Alo; simp
end Go.Proofs.YtojielnkfeoccaaGreat
