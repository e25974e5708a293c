/- Plain laws: what is laid is a patch. -/
import Derived.Test.YtpbbnoggkbfkoaaGreatQf
namespace Go.Proofs.YtpbbnoggkbfkoaaGreat
open Go Go.Ev Go.Proofs
theorem fits_right {m : Msh} {c : Chr} {j : Int} (h : Fits m c j) : (shadow (m, (j, c.1))) = (Shd m j c.1, 0) ∧ Right (Shd m j c.1).1 (Shd m j c.1).2.1 (Shd m j c.1).2.2 := by
  have h1 := h.1
  rw [(facing_law m j).2] at h1
  split at h1
  · rename_i hm
    split at h1
    · simp at h1
    · rename_i hz
      have ha : Ax (Nm m j) = c.1 := congrArg (·.1) h1
      have hin := ax_in (Nm m j)
      rw [(shadow_law m j c.1).2, if_pos ⟨hm.1, hm.2, by omega⟩]
      refine ⟨rfl, ?_⟩
      have := shd_right hm.1 hm.2 hz
      rwa [ha] at this
  · simp at h1
def Ly (lo : P2) (d : Int) (p : P2) : P2 := ((p.1 - lo.1) * d, (p.2 - lo.2) * d)
theorem layc_law {p lo : P2} {d : Int} (hp : Sm p) (hlo : Sm lo) (hd : 1 ≤ d ∧ d ≤ 64) : layc (p, (lo, d)) = Ly lo d p := by
  have m1 := mulb (a := p.1 - lo.1) (b := d) (A := 8192) (B := 64) (by omega) (by omega) (by omega) (by omega)
  have m2 := mulb (a := p.2 - lo.2) (b := d) (A := 8192) (B := 64) (by omega) (by omega) (by omega) (by omega)
  unfold layc Ly
  dsimp only
  rw [w64_id (n := p.1 - lo.1) (by omega) (by omega), w64_id (n := p.2 - lo.2) (by omega) (by omega), w64_id (by omega) (by omega), w64_id (by omega) (by omega)]
theorem det_ly (lo a b c : P2) (d : Int) : Det (Ly lo d a) (Ly lo d b) (Ly lo d c) = d * d * Det a b c := by
  unfold Det Ly; dsimp only; grind
theorem ly_mono {x y l d : Int} (h : x ≤ y) (hd : 1 ≤ d) : (x - l) * d ≤ (y - l) * d := Int.mul_le_mul_of_nonneg_right (by omega) (by omega)
theorem pts_map (f : P2 → P2) (l : List T2) : pts (l.map (tmap f)) = (pts l).map f := by
  induction l with
  | nil => rfl
  | cons t r ih =>
    unfold pts at ih ⊢
    rw [List.map_cons, List.flatMap_cons, List.flatMap_cons, List.map_append, ih]; rfl
theorem mem_raw {m : Msh} {c : Chr} {t : T2} (h : t ∈ Raw m c) : ∃ j ∈ c.2.2, t = (shadow (m, (j, c.1))).1 := by
  unfold Raw at h
  obtain ⟨j, hj, rfl⟩ := List.mem_map.1 h
  exact ⟨j, hj, rfl⟩
theorem raw_right {m : Msh} {c : Chr} (hf : ∀ j ∈ c.2.2, Fits m c j) {t : T2} (h : t ∈ Raw m c) : Right t.1 t.2.1 t.2.2 := by
  obtain ⟨j, hj, rfl⟩ := mem_raw h
  obtain ⟨e, hr⟩ := fits_right (hf j hj)
  rw [e]; exact hr
theorem pts_sm {l : List T2} (h : ∀ t ∈ l, Right t.1 t.2.1 t.2.2) : ∀ p ∈ pts l, Sm p := by
  intro p hp
  unfold pts at hp
  obtain ⟨t, ht, hp⟩ := List.mem_flatMap.1 hp
  obtain ⟨⟨h1, h2, h3⟩, _⟩ := h t ht
  simp only [tp, List.mem_cons, List.not_mem_nil, or_false] at hp
  rcases hp with rfl | rfl | rfl <;> assumption
/-- What is laid, in plain words. -/
theorem laid_plain {m : Msh} {c : Chr} {d : Int} (hl : c.2.2.length < 1099511627776) (h : Laid m c d) : ∃ lo hi, IsBox (pts (Raw m c)) lo hi ∧ fbox (Raw m c) = (lo, (hi, 0)) ∧ Sm lo ∧ Sm hi ∧ Turn m c d = (Raw m c).map (tmap (Ly lo d)) ∧ High m c d = Ly lo d hi ∧ Raw m c ≠ [] := by
  have hrl : (Raw m c).length = c.2.2.length := by unfold Raw; simp
  have hs := pts_sm fun t => raw_right h.fits (t := t)
  rcases (fbox_law (Raw m c) (by omega)).2 with ⟨_, e⟩ | ⟨_, e⟩ | ⟨h0, _, lo, hi, hB, e⟩
  · have := h.box; rw [e] at this; cases this
  · have := h.box; rw [e] at this; cases this
  · obtain ⟨p1, k1, e1⟩ := hB.l1
    obtain ⟨p2, k2, e2⟩ := hB.l2
    obtain ⟨p3, k3, e3⟩ := hB.h1
    obtain ⟨p4, k4, e4⟩ := hB.h2
    have s1 := hs p1 k1
    have s2 := hs p2 k2
    have s3 := hs p3 k3
    have s4 := hs p4 k4
    have hlo : Sm lo := ⟨by omega, by omega⟩
    have hhi : Sm hi := ⟨by omega, by omega⟩
    refine ⟨lo, hi, hB, e, hlo, hhi, ?_, ?_, h0⟩
    · unfold Turn
      rw [e]
      refine List.map_congr_left fun t ht => ?_
      obtain ⟨⟨q1, q2, q3⟩, _⟩ := raw_right h.fits ht
      unfold tmap
      dsimp only
      rw [layc_law q1 hlo h.dens, layc_law q2 hlo h.dens, layc_law q3 hlo h.dens]
    · unfold High
      rw [e]
      exact layc_law hhi hlo h.dens
theorem laid_patch {m : Msh} {c : Chr} {d : Int} (hl : c.2.2.length ≤ 500) (h : Laid m c d) : IsPatch (c.2.2, (Turn m c d, (Sz (High m c d).1, Sz (High m c d).2))) := by
  obtain ⟨lo, hi, hB, e, hlo, hhi, hT, hH, h0⟩ := laid_plain (by omega) h
  have hrl : (Raw m c).length = c.2.2.length := by unfold Raw; simp
  have hd := h.dens
  have hh := h.high
  rw [hH] at hh
  have hp : ∀ p ∈ pts (Raw m c), (0 ≤ (Ly lo d p).1 ∧ (Ly lo d p).1 ≤ (Ly lo d hi).1) ∧ (0 ≤ (Ly lo d p).2 ∧ (Ly lo d p).2 ≤ (Ly lo d hi).2) := fun p hp => by
    have g1 := hB.low p hp
    have g2 := hB.high p hp
    have a1 := ly_mono (l := lo.1) (d := d) g1.1 hd.1
    have a2 := ly_mono (l := lo.2) (d := d) g1.2 hd.1
    have a3 := ly_mono (l := lo.1) (d := d) g2.1 hd.1
    have a4 := ly_mono (l := lo.2) (d := d) g2.2 hd.1
    rw [Int.sub_self, Int.zero_mul] at a1 a2
    exact ⟨⟨a1, a3⟩, a2, a4⟩
  have hsm : ∀ p ∈ pts (Raw m c), Sm (Ly lo d p) := fun p hq => by
    have := hp p hq; exact ⟨by omega, by omega⟩
  have hmem : ∀ t ∈ Raw m c, t.1 ∈ pts (Raw m c) ∧ t.2.1 ∈ pts (Raw m c) ∧ t.2.2 ∈ pts (Raw m c) := fun t ht => by
    unfold pts
    exact ⟨List.mem_flatMap.2 ⟨t, ht, by simp [tp]⟩, List.mem_flatMap.2 ⟨t, ht, by simp [tp]⟩, List.mem_flatMap.2 ⟨t, ht, by simp [tp]⟩⟩
  have hright : ∀ t ∈ Turn m c d, Right t.1 t.2.1 t.2.2 := fun t ht => by
    rw [hT] at ht
    obtain ⟨u, hu, rfl⟩ := List.mem_map.1 ht
    obtain ⟨k1, k2, k3⟩ := hmem u hu
    refine ⟨⟨hsm _ k1, hsm _ k2, hsm _ k3⟩, ?_⟩
    unfold tmap
    dsimp only
    rw [det_ly]
    have hne := (raw_right h.fits hu).2
    exact Int.mul_ne_zero (Int.mul_ne_zero (by omega) (by omega)) hne
  have hbox : fbox (Turn m c d) = (z2, (Ly lo d hi, 0)) := by
    rw [hT]
    have hz : ∀ {f : P2 → Int} {g : P2 → Int} {v w : Int}, (∃ p ∈ pts (Raw m c), f p = v) → (∀ p, f p = v → g (Ly lo d p) = w) → ∃ q ∈ (pts (Raw m c)).map (Ly lo d), g q = w := fun ⟨p, hp, e⟩ hg => ⟨_, List.mem_map.2 ⟨p, hp, rfl⟩, hg p e⟩
    refine box_of (by simp; omega) (by simpa using h0) ?_ ?_
    · rw [pts_map]
      intro p hp
      obtain ⟨q, hq, rfl⟩ := List.mem_map.1 hp
      exact hsm q hq
    · rw [pts_map]
      refine ⟨fun p hp' => ?_, fun p hp' => ?_, hz hB.l1 ?_, hz hB.l2 ?_, hz hB.h1 ?_, hz hB.h2 ?_⟩
      · obtain ⟨q, hq, rfl⟩ := List.mem_map.1 hp'
        have := hp q hq; exact ⟨this.1.1, this.2.1⟩
      · obtain ⟨q, hq, rfl⟩ := List.mem_map.1 hp'
        have := hp q hq; exact ⟨this.1.2, this.2.2⟩
      · intro p e; unfold Ly; dsimp only; rw [e, Int.sub_self, Int.zero_mul]
      · intro p e; unfold Ly; dsimp only; rw [e, Int.sub_self, Int.zero_mul]
      · intro p e; unfold Ly; dsimp only; rw [e]
      · intro p e; unfold Ly; dsimp only; rw [e]
  refine ⟨hl, ?_, hright, ?_, ?_, ?_, ?_, h.free⟩
  · rw [hT]; simp [hrl]
  · dsimp only; rw [hbox]
  · dsimp only; rw [hbox]
  · dsimp only; rw [hbox, hH]
  · dsimp only; rw [hbox, hH]
end Go.Proofs.YtpbbnoggkbfkoaaGreat
