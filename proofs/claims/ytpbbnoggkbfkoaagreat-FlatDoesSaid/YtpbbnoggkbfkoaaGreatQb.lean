/- Plain laws: normals, facings, shadows. -/
import Derived.Test.YtpbbnoggkbfkoaaGreatQa
namespace Go.Proofs.YtpbbnoggkbfkoaaGreat
open Go Go.Ev Go.Proofs
abbrev Is30 (p : Int × (Int × Int)) : Prop := (-1048576 ≤ p.1 ∧ p.1 ≤ 1048576) ∧ (-1048576 ≤ p.2.1 ∧ p.2.1 ≤ 1048576) ∧ (-1048576 ≤ p.2.2 ∧ p.2.2 ≤ 1048576)
theorem is3_law (x : List (Int × (Int × Int))) (hl : x.length < 4611686018427387904) : is3_pre x ∧ is3 x = decide (∀ p ∈ x, Is30 p) := by
  have hn : ∀ a b c : Int, near [a, b, c] = decide (Is30 (a, (b, c))) := fun a b c => by
    rw [(near_law [a, b, c] (by simp)).2, Bool.eq_iff_iff]; simp
  rw [← notAny (bad := fun p => !decide (Is30 p)) (fun _ => rfl)]
  refine all_loop x hl _ _ _ (fun i hi => ?_) (fun i v hv => ?_) ?_
  · unfold is3_l0_pre
    intro h
    simp only [Int.toNat_natCast]
    exact ⟨by omega, by omega, by omega, (near_law _ (by simp)).1⟩
  · have hlt := lt_of_get hv
    unfold is3_l0_step
    rw [if_pos (by omega), Int.toNat_natCast, getD_of hv]
    unfold letV
    rw [hn]
  · unfold is3_l0_step
    rw [if_neg (by omega)]
def Sub3 (a b : Int × (Int × Int)) : Int × (Int × Int) := (a.1 - b.1, (a.2.1 - b.2.1, a.2.2 - b.2.2))
def Crs (u v : Int × (Int × Int)) : Int × (Int × Int) := (u.2.1 * v.2.2 - u.2.2 * v.2.1, (u.2.2 * v.1 - u.1 * v.2.2, u.1 * v.2.1 - u.2.1 * v.1))
def Nrm (a b c : Int × (Int × Int)) : Int × (Int × Int) := Crs (Sub3 b a) (Sub3 c a)
theorem sub3_tm (x : (Int × (Int × Int)) × (Int × (Int × Int))) : sub3_pre x := (is3_law _ (by simp)).1
theorem sub3_law {a b : Int × (Int × Int)} (ha : Sm3 a) (hb : Sm3 b) : sub3 (a, b) = Sub3 a b := by
  unfold sub3
  rw [(is3_law [a, b] (by simp)).2, decide_eq_true (by simp only [List.mem_cons, List.not_mem_nil, or_false, forall_eq_or_imp, forall_eq]; exact ⟨⟨by omega, by omega, by omega⟩, by omega, by omega, by omega⟩)]
  simp only [letV, vparts, vpoint, cond_true, cond_false, Bool.not_true, Bool.false_eq_true, if_false]
  rw [w64_id (by omega) (by omega), w64_id (by omega) (by omega), w64_id (by omega) (by omega)]
  rfl
theorem crs_in {u v : Int × (Int × Int)} {B : Int} (hB : 0 ≤ B ∧ B ≤ 32768) (hu : (-B ≤ u.1 ∧ u.1 ≤ B) ∧ (-B ≤ u.2.1 ∧ u.2.1 ≤ B) ∧ (-B ≤ u.2.2 ∧ u.2.2 ≤ B)) (hv : (-B ≤ v.1 ∧ v.1 ≤ B) ∧ (-B ≤ v.2.1 ∧ v.2.1 ≤ B) ∧ (-B ≤ v.2.2 ∧ v.2.2 ≤ B)) :
    (-(B * B) ≤ u.2.1 * v.2.2 ∧ u.2.1 * v.2.2 ≤ B * B) ∧ (-(B * B) ≤ u.2.2 * v.2.1 ∧ u.2.2 * v.2.1 ≤ B * B) ∧ (-(B * B) ≤ u.2.2 * v.1 ∧ u.2.2 * v.1 ≤ B * B) ∧ (-(B * B) ≤ u.1 * v.2.2 ∧ u.1 * v.2.2 ≤ B * B) ∧ (-(B * B) ≤ u.1 * v.2.1 ∧ u.1 * v.2.1 ≤ B * B) ∧ (-(B * B) ≤ u.2.1 * v.1 ∧ u.2.1 * v.1 ≤ B * B) :=
  ⟨mulb hu.2.1.1 hu.2.1.2 hv.2.2.1 hv.2.2.2, mulb hu.2.2.1 hu.2.2.2 hv.2.1.1 hv.2.1.2, mulb hu.2.2.1 hu.2.2.2 hv.1.1 hv.1.2, mulb hu.1.1 hu.1.2 hv.2.2.1 hv.2.2.2, mulb hu.1.1 hu.1.2 hv.2.1.1 hv.2.1.2, mulb hu.2.1.1 hu.2.1.2 hv.1.1 hv.1.2⟩
theorem cross3_tm (x : (Int × (Int × Int)) × (Int × (Int × Int))) : cross3_pre x := (is3_law _ (by simp)).1
abbrev In3 (B : Int) (u : Int × (Int × Int)) : Prop := (-B ≤ u.1 ∧ u.1 ≤ B) ∧ (-B ≤ u.2.1 ∧ u.2.1 ≤ B) ∧ (-B ≤ u.2.2 ∧ u.2.2 ≤ B)
theorem cross3_law {u v : Int × (Int × Int)} (hu : In3 32768 u) (hv : In3 32768 v) : cross3 (u, v) = (Crs u v, 0) := by
  unfold cross3
  rw [(is3_law [u, v] (by simp)).2, decide_eq_true (by simp only [List.mem_cons, List.not_mem_nil, or_false, forall_eq_or_imp, forall_eq]; exact ⟨⟨by omega, by omega, by omega⟩, by omega, by omega, by omega⟩)]
  obtain ⟨h1, h2, h3, h4, h5, h6⟩ := crs_in (B := 32768) (by omega) hu hv
  simp only [letV, vparts, vpoint, cond_true, cond_false, Bool.not_true, Bool.false_eq_true, if_false]
  rw [w64_id (n := u.2.1 * v.2.2) (by omega) (by omega), w64_id (n := u.2.2 * v.2.1) (by omega) (by omega), w64_id (n := u.2.2 * v.1) (by omega) (by omega), w64_id (n := u.1 * v.2.2) (by omega) (by omega), w64_id (n := u.1 * v.2.1) (by omega) (by omega), w64_id (n := u.2.1 * v.1) (by omega) (by omega)]
  rw [w64_id (by omega) (by omega), w64_id (by omega) (by omega), w64_id (by omega) (by omega)]
  rfl
theorem sub3_in {a b : Int × (Int × Int)} (ha : Sm3 a) (hb : Sm3 b) : In3 32768 (Sub3 a b) := by
  unfold Sub3; dsimp only [In3]; omega
theorem nrm_in {a b c : Int × (Int × Int)} (ha : Sm3 a) (hb : Sm3 b) (hc : Sm3 c) : In3 2147483648 (Nrm a b c) := by
  obtain ⟨h1, h2, h3, h4, h5, h6⟩ := crs_in (B := 32768) (by omega) (sub3_in hb ha) (sub3_in hc ha)
  unfold Nrm Crs; dsimp only [In3]; omega
theorem snormal_tm (x : (Int × (Int × Int)) × ((Int × (Int × Int)) × (Int × (Int × Int)))) : snormal_pre x :=
  ⟨(small3_law _ (by simp)).1, fun _ => ⟨sub3_tm _, sub3_tm _, cross3_tm _⟩⟩
theorem snormal_law (a b c : Int × (Int × Int)) : snormal (a, (b, c)) = if Sm3 a ∧ Sm3 b ∧ Sm3 c then (Nrm a b c, 0) else ((0, (0, 0)), 5) := by
  unfold snormal pnormal
  dsimp only [letV]
  rw [small3_three]
  by_cases h : Sm3 a ∧ Sm3 b ∧ Sm3 c
  · rw [decide_eq_true h, if_neg (by decide), if_pos h, sub3_law h.2.1 h.1, sub3_law h.2.2 h.1, cross3_law (sub3_in h.2.1 h.1) (sub3_in h.2.2 h.1)]
    rfl
  · rw [decide_eq_false h, if_pos (by decide), if_neg h]
def Lw (x : Int) : Int := if x > 0 then -x else x
theorem vlow_law {x : Int} (h : x ≤ 4611686018427387904) : vlow x = Lw x := by
  unfold vlow Lw
  split
  · rw [w64_id (by omega) (by omega)]; omega
  · rfl
def Ax (n : Int × (Int × Int)) : Int := if Lw n.2.1 < Lw n.1 then (if Lw n.2.2 < Lw n.2.1 then 2 else 1) else (if Lw n.2.2 < Lw n.1 then 2 else 0)
def Cp (n : Int × (Int × Int)) (ax : Int) : Int := if ax = 0 then n.1 else if ax = 1 then n.2.1 else n.2.2
theorem vaxis_law {n : Int × (Int × Int)} (h : In3 4611686018427387904 n) : vaxis n = Ax n := by
  unfold vaxis
  dsimp only [letV, vparts]
  rw [vlow_law h.1.2, vlow_law h.2.1.2, vlow_law h.2.2.2, if_neg (Int.lt_irrefl _)]
  rfl
theorem ax_in (n : Int × (Int × Int)) : 0 ≤ Ax n ∧ Ax n < 3 := by unfold Ax; split <;> split <;> omega
theorem ax_most (n : Int × (Int × Int)) (h : n ≠ (0, (0, 0))) : Cp n (Ax n) ≠ 0 := by
  obtain ⟨x, y, z⟩ := n
  have h : ¬ (x = 0 ∧ y = 0 ∧ z = 0) := fun ⟨h1, h2, h3⟩ => h (by rw [h1, h2, h3])
  unfold Cp Ax Lw
  dsimp only
  split <;> split <;> split <;> (try split) <;> (try split) <;> (try split) <;> (try split) <;> omega
theorem vparts_id (p : Int × (Int × Int)) : vparts p = p := rfl
theorem cp_list (n : Int × (Int × Int)) {ax : Int} (h : 0 ≤ ax ∧ ax < 3) : List.getD [n.1, n.2.1, n.2.2] (ax.toNat * 1) 0 = Cp n ax := by
  have : ax = 0 ∨ ax = 1 ∨ ax = 2 := by omega
  rcases this with rfl | rfl | rfl <;> rfl
theorem sfacing_tm (x : (Int × (Int × Int)) × ((Int × (Int × Int)) × (Int × (Int × Int)))) : sfacing_pre x := by
  obtain ⟨a, b, c⟩ := x
  refine ⟨snormal_tm _, ?_⟩
  dsimp only [letP]
  rw [snormal_law]
  intro h1 h2
  by_cases h : Sm3 a ∧ Sm3 b ∧ Sm3 c
  · rw [if_pos h] at h1 h2 ⊢
    have hn := nrm_in h.1 h.2.1 h.2.2
    dsimp only
    rw [vaxis_law (n := Nrm a b c) ⟨by omega, by omega, by omega⟩]
    exact ax_in _
  · rw [if_neg h] at h1
    exact absurd (by decide) h1
theorem sfacing_law (a b c : Int × (Int × Int)) : sfacing (a, (b, c)) = if Sm3 a ∧ Sm3 b ∧ Sm3 c then (if Nrm a b c = (0, (0, 0)) then (0, (0, 3)) else (Ax (Nrm a b c), (sg (Cp (Nrm a b c) (Ax (Nrm a b c))), 0))) else (0, (0, 5)) := by
  unfold sfacing
  dsimp only [letV]
  rw [snormal_law]
  by_cases h : Sm3 a ∧ Sm3 b ∧ Sm3 c
  · rw [if_pos h, if_pos h, if_neg (by simp)]
    have hn := nrm_in h.1 h.2.1 h.2.2
    have he : ((((Nrm a b c).1 == (0 : Int)) && (((Nrm a b c).2.1 == (0 : Int)) && (((Nrm a b c).2.2 == (0 : Int)) && true))) = true) ↔ Nrm a b c = (0, (0, 0)) := by
      generalize Nrm a b c = n
      obtain ⟨x, y, z⟩ := n
      simp
    by_cases hz : Nrm a b c = (0, (0, 0))
    · rw [if_pos (he.2 hz), if_pos hz]
    · rw [if_neg (fun q => hz (he.1 q)), if_neg hz]
      dsimp only
      rw [vaxis_law (n := Nrm a b c) ⟨by omega, by omega, by omega⟩, cp_list _ (ax_in _), compare_law, show ∀ q : Int, q - 0 = q by omega]
  · rw [if_neg h, if_neg h]
    rfl
def Dr (p : Int × (Int × Int)) (ax : Int) : Int × Int := if ax = 0 then (p.2.1, p.2.2) else if ax = 1 then (p.2.2, p.1) else (p.1, p.2.1)
theorem vdrop_law (p : Int × (Int × Int)) (ax : Int) : vdrop_pre (p, ax) ∧ vdrop (p, ax) = if 0 ≤ ax ∧ ax < 3 then (Dr p ax, 0) else ((0, 0), 1) := by
  unfold vdrop_pre vdrop
  dsimp only [letV, letP, vparts]
  by_cases h : 0 ≤ ax ∧ ax < 3
  · have : ax = 0 ∨ ax = 1 ∨ ax = 2 := by omega
    rcases this with rfl | rfl | rfl <;> exact ⟨fun _ _ => ⟨by decide, by decide, by decide, by decide⟩, rfl⟩
  · rw [if_neg h]
    by_cases h1 : ax < 0
    · exact ⟨fun h => absurd h1 h, by rw [if_pos h1]⟩
    · exact ⟨fun _ h => absurd (show ax ≥ 3 by omega) h, by rw [if_neg h1, if_pos (by omega)]⟩
theorem det_drop (a b c : Int × (Int × Int)) {ax : Int} (h : 0 ≤ ax ∧ ax < 3) : Det (Dr a ax) (Dr b ax) (Dr c ax) = Cp (Nrm a b c) ax := by
  have : ax = 0 ∨ ax = 1 ∨ ax = 2 := by omega
  rcases this with rfl | rfl | rfl
  · show (b.2.1 - a.2.1) * (c.2.2 - a.2.2) - (b.2.2 - a.2.2) * (c.2.1 - a.2.1) = (b.2.1 - a.2.1) * (c.2.2 - a.2.2) - (b.2.2 - a.2.2) * (c.2.1 - a.2.1); rfl
  · show (b.2.2 - a.2.2) * (c.1 - a.1) - (b.1 - a.1) * (c.2.2 - a.2.2) = (b.2.2 - a.2.2) * (c.1 - a.1) - (b.1 - a.1) * (c.2.2 - a.2.2); rfl
  · show (b.1 - a.1) * (c.2.1 - a.2.1) - (b.2.1 - a.2.1) * (c.1 - a.1) = (b.1 - a.1) * (c.2.1 - a.2.1) - (b.2.1 - a.2.1) * (c.1 - a.1); rfl
end Go.Proofs.YtpbbnoggkbfkoaaGreat
