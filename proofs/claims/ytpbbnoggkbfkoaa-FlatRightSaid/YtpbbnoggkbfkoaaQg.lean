/- FlatRight's function answers true, whatever its input. -/
import Derived.Test.YtpbbnoggkbfkoaaQf
import Derived.Test.YtpbbnoggkbfkoaaFga
namespace Go.Proofs.Ytpbbnoggkbfkoaa
open Go Go.Ev Go.Proofs
theorem fits_right {m : Msh} {c : Chr} {j : Int} (h : Fits m c j) : (shadow (m, (j, c.1))) = (Shd m j c.1, 0) ∧ Right (Shd m j c.1).1 (Shd m j c.1).2.1 (Shd m j c.1).2.2 := by
  have h1 := h.1
  rw [(facing_law m j).2] at h1
  split at h1
  · rename_i hm
    split at h1
    · simp at h1
    · rename_i hz
      have ha : Ax (Nm m j) = c.1 := congrArg (·.1) h1
      have hin := ax_in (Nm m j)
      rw [(shadow_law m j c.1).2, if_pos ⟨hm.1, hm.2, by omega⟩]
      refine ⟨rfl, ?_⟩
      have := shd_right hm.1 hm.2 hz
      rwa [ha] at this
  · simp at h1
def Ly (lo : P2) (d : Int) (p : P2) : P2 := ((p.1 - lo.1) * d, (p.2 - lo.2) * d)
theorem layc_law {p lo : P2} {d : Int} (hp : Sm p) (hlo : Sm lo) (hd : 1 ≤ d ∧ d ≤ 64) : layc (p, (lo, d)) = Ly lo d p := by
  have m1 := mulb (a := p.1 - lo.1) (b := d) (A := 8192) (B := 64) (by omega) (by omega) (by omega) (by omega)
  have m2 := mulb (a := p.2 - lo.2) (b := d) (A := 8192) (B := 64) (by omega) (by omega) (by omega) (by omega)
  unfold layc Ly
  dsimp only
  rw [w64_id (n := p.1 - lo.1) (by omega) (by omega), w64_id (n := p.2 - lo.2) (by omega) (by omega), w64_id (by omega) (by omega), w64_id (by omega) (by omega)]
theorem det_ly (lo a b c : P2) (d : Int) : Det (Ly lo d a) (Ly lo d b) (Ly lo d c) = d * d * Det a b c := by
  unfold Det Ly; dsimp only; grind
theorem ly_mono {x y l d : Int} (h : x ≤ y) (hd : 1 ≤ d) : (x - l) * d ≤ (y - l) * d := Int.mul_le_mul_of_nonneg_right (by omega) (by omega)
theorem pts_map (f : P2 → P2) (l : List T2) : pts (l.map (tmap f)) = (pts l).map f := by
  induction l with
  | nil => rfl
  | cons t r ih =>
    unfold pts at ih ⊢
    rw [List.map_cons, List.flatMap_cons, List.flatMap_cons, List.map_append, ih]; rfl
theorem mem_raw {m : Msh} {c : Chr} {t : T2} (h : t ∈ Raw m c) : ∃ j ∈ c.2.2, t = (shadow (m, (j, c.1))).1 := by
  unfold Raw at h
  obtain ⟨j, hj, rfl⟩ := List.mem_map.1 h
  exact ⟨j, hj, rfl⟩
theorem raw_right {m : Msh} {c : Chr} (hf : ∀ j ∈ c.2.2, Fits m c j) {t : T2} (h : t ∈ Raw m c) : Right t.1 t.2.1 t.2.2 := by
  obtain ⟨j, hj, rfl⟩ := mem_raw h
  obtain ⟨e, hr⟩ := fits_right (hf j hj)
  rw [e]; exact hr
theorem pts_sm {l : List T2} (h : ∀ t ∈ l, Right t.1 t.2.1 t.2.2) : ∀ p ∈ pts l, Sm p := by
  intro p hp
  unfold pts at hp
  obtain ⟨t, ht, hp⟩ := List.mem_flatMap.1 hp
  obtain ⟨⟨h1, h2, h3⟩, _⟩ := h t ht
  simp only [tp, List.mem_cons, List.not_mem_nil, or_false] at hp
  rcases hp with rfl | rfl | rfl <;> assumption
/-- What is laid, in plain words. -/
theorem laid_plain {m : Msh} {c : Chr} {d : Int} (hl : c.2.2.length < 1099511627776) (h : Laid m c d) : ∃ lo hi, IsBox (pts (Raw m c)) lo hi ∧ fbox (Raw m c) = (lo, (hi, 0)) ∧ Sm lo ∧ Sm hi ∧ Turn m c d = (Raw m c).map (tmap (Ly lo d)) ∧ High m c d = Ly lo d hi ∧ Raw m c ≠ [] := by
  have hrl : (Raw m c).length = c.2.2.length := by unfold Raw; simp
  have hs := pts_sm fun t => raw_right h.fits (t := t)
  rcases (fbox_law (Raw m c) (by omega)).2 with ⟨_, e⟩ | ⟨_, e⟩ | ⟨h0, _, lo, hi, hB, e⟩
  · have := h.box; rw [e] at this; cases this
  · have := h.box; rw [e] at this; cases this
  · obtain ⟨p1, k1, e1⟩ := hB.l1
    obtain ⟨p2, k2, e2⟩ := hB.l2
    obtain ⟨p3, k3, e3⟩ := hB.h1
    obtain ⟨p4, k4, e4⟩ := hB.h2
    have s1 := hs p1 k1
    have s2 := hs p2 k2
    have s3 := hs p3 k3
    have s4 := hs p4 k4
    have hlo : Sm lo := ⟨by omega, by omega⟩
    have hhi : Sm hi := ⟨by omega, by omega⟩
    refine ⟨lo, hi, hB, e, hlo, hhi, ?_, ?_, h0⟩
    · unfold Turn
      rw [e]
      refine List.map_congr_left fun t ht => ?_
      obtain ⟨⟨q1, q2, q3⟩, _⟩ := raw_right h.fits ht
      unfold tmap
      dsimp only
      rw [layc_law q1 hlo h.dens, layc_law q2 hlo h.dens, layc_law q3 hlo h.dens]
    · unfold High
      rw [e]
      exact layc_law hhi hlo h.dens
theorem laid_patch {m : Msh} {c : Chr} {d : Int} (hl : c.2.2.length ≤ 500) (h : Laid m c d) : IsPatch (c.2.2, (Turn m c d, (Sz (High m c d).1, Sz (High m c d).2))) := by
  obtain ⟨lo, hi, hB, e, hlo, hhi, hT, hH, h0⟩ := laid_plain (by omega) h
  have hrl : (Raw m c).length = c.2.2.length := by unfold Raw; simp
  have hd := h.dens
  have hh := h.high
  rw [hH] at hh
  have hp : ∀ p ∈ pts (Raw m c), (0 ≤ (Ly lo d p).1 ∧ (Ly lo d p).1 ≤ (Ly lo d hi).1) ∧ (0 ≤ (Ly lo d p).2 ∧ (Ly lo d p).2 ≤ (Ly lo d hi).2) := fun p hp => by
    have g1 := hB.low p hp
    have g2 := hB.high p hp
    have a1 := ly_mono (l := lo.1) (d := d) g1.1 hd.1
    have a2 := ly_mono (l := lo.2) (d := d) g1.2 hd.1
    have a3 := ly_mono (l := lo.1) (d := d) g2.1 hd.1
    have a4 := ly_mono (l := lo.2) (d := d) g2.2 hd.1
    rw [Int.sub_self, Int.zero_mul] at a1 a2
    exact ⟨⟨a1, a3⟩, a2, a4⟩
  have hsm : ∀ p ∈ pts (Raw m c), Sm (Ly lo d p) := fun p hq => by
    have := hp p hq; exact ⟨by omega, by omega⟩
  have hmem : ∀ t ∈ Raw m c, t.1 ∈ pts (Raw m c) ∧ t.2.1 ∈ pts (Raw m c) ∧ t.2.2 ∈ pts (Raw m c) := fun t ht => by
    unfold pts
    exact ⟨List.mem_flatMap.2 ⟨t, ht, by simp [tp]⟩, List.mem_flatMap.2 ⟨t, ht, by simp [tp]⟩, List.mem_flatMap.2 ⟨t, ht, by simp [tp]⟩⟩
  have hright : ∀ t ∈ Turn m c d, Right t.1 t.2.1 t.2.2 := fun t ht => by
    rw [hT] at ht
    obtain ⟨u, hu, rfl⟩ := List.mem_map.1 ht
    obtain ⟨k1, k2, k3⟩ := hmem u hu
    refine ⟨⟨hsm _ k1, hsm _ k2, hsm _ k3⟩, ?_⟩
    unfold tmap
    dsimp only
    rw [det_ly]
    have hne := (raw_right h.fits hu).2
    exact Int.mul_ne_zero (Int.mul_ne_zero (by omega) (by omega)) hne
  have hbox : fbox (Turn m c d) = (z2, (Ly lo d hi, 0)) := by
    rw [hT]
    have hz : ∀ {f : P2 → Int} {g : P2 → Int} {v w : Int}, (∃ p ∈ pts (Raw m c), f p = v) → (∀ p, f p = v → g (Ly lo d p) = w) → ∃ q ∈ (pts (Raw m c)).map (Ly lo d), g q = w := fun ⟨p, hp, e⟩ hg => ⟨_, List.mem_map.2 ⟨p, hp, rfl⟩, hg p e⟩
    refine box_of (by simp; omega) (by simpa using h0) ?_ ?_
    · rw [pts_map]
      intro p hp
      obtain ⟨q, hq, rfl⟩ := List.mem_map.1 hp
      exact hsm q hq
    · rw [pts_map]
      refine ⟨fun p hp' => ?_, fun p hp' => ?_, hz hB.l1 ?_, hz hB.l2 ?_, hz hB.h1 ?_, hz hB.h2 ?_⟩
      · obtain ⟨q, hq, rfl⟩ := List.mem_map.1 hp'
        have := hp q hq; exact ⟨this.1.1, this.2.1⟩
      · obtain ⟨q, hq, rfl⟩ := List.mem_map.1 hp'
        have := hp q hq; exact ⟨this.1.2, this.2.2⟩
      · intro p e; unfold Ly; dsimp only; rw [e, Int.sub_self, Int.zero_mul]
      · intro p e; unfold Ly; dsimp only; rw [e, Int.sub_self, Int.zero_mul]
      · intro p e; unfold Ly; dsimp only; rw [e]
      · intro p e; unfold Ly; dsimp only; rw [e]
  refine ⟨hl, ?_, hright, ?_, ?_, ?_, ?_, h.free⟩
  · rw [hT]; simp [hrl]
  · dsimp only; rw [hbox]
  · dsimp only; rw [hbox]
  · dsimp only; rw [hbox, hH]
  · dsimp only; rw [hbox, hH]
theorem turn_get {m : Msh} {c : Chr} {d : Int} {i : Nat} (hl : c.2.2.length < 1099511627776) (h : Laid m c d) (hi : i < c.2.2.length) :
    ∃ lo t, Sm lo ∧ Right t.1 t.2.1 t.2.2 ∧ shadow (m, (c.2.2.getD i 0, c.1)) = (t, 0) ∧ (Turn m c d).getD i zT = tmap (Ly lo d) t := by
  obtain ⟨lo, hi', hB, e, hlo, hhi, hT, hH, h0⟩ := laid_plain hl h
  have hm : c.2.2.getD i 0 ∈ c.2.2 := by rw [List.getD_eq_getElem?_getD, List.getElem?_eq_getElem hi]; exact List.getElem_mem _
  obtain ⟨e1, hr⟩ := fits_right (h.fits _ hm)
  refine ⟨lo, _, hlo, hr, e1, ?_⟩
  rw [hT]
  unfold Raw
  rw [List.map_map, List.getD_eq_getElem?_getD, List.getElem?_map, List.getElem?_eq_getElem hi]
  simp only [Option.map_some, Option.getD_some, Function.comp]
  have : c.2.2[i] = c.2.2.getD i 0 := by rw [List.getD_eq_getElem?_getD, List.getElem?_eq_getElem hi]; rfl
  rw [this, e1]
theorem right_loop (m : Msh) (c : Chr) (d : Int) (a : List Int) (w h : Int) (hl : c.2.2.length ≤ 500) (hL : Laid m c d) :
    Term (l16right_l0_step (m, (c, d))) (l16right_l0_pre (m, (c, d))) (a, (Turn m c d, (w, (h, 0)))) ∧ run (l16right_l0_step (m, (c, d))) (a, (Turn m c d, (w, (h, 0)))) = .inr () := by
  have htl : (Turn m c d).length = c.2.2.length := by unfold Turn Raw; simp
  refine loop_inv (step := l16right_l0_step (m, (c, d))) (pre := l16right_l0_pre (m, (c, d))) (fun s => ∃ i : Nat, s = (a, (Turn m c d, (w, (h, (i : Int))))) ∧ i ≤ c.2.2.length) (fun s => c.2.2.length - s.2.2.2.2.toNat) (fun r => r = .inr ()) (fun s hs => ?_) _ ⟨0, rfl, Nat.zero_le _⟩
  obtain ⟨i, rfl, hi⟩ := hs
  unfold l16right_l0_step l16right_l0_pre
  dsimp only [letV, letP]
  simp only [Int.toNat_natCast]
  have hd := hL.dens
  have key : i < c.2.2.length → ∀ {α : Type} (A B : α), (if (((shadow (m, (c.2.2.getD i 0, c.1))).2 != 0) = true) then A else if (((sarea (shadow (m, (c.2.2.getD i 0, c.1))).1).2 != 0) = true) then A else if (((sarea ((Turn m c d).getD i zT)).2 != 0) = true) then A else if (((sarea ((Turn m c d).getD i zT)).1 != w64 (w64 ((sarea (shadow (m, (c.2.2.getD i 0, c.1))).1).1 * d) * d)) = true) then A else B) = B := by
    intro hlt α A B
    obtain ⟨lo, t, hlo, hr, e1, e2⟩ := turn_get (by omega) hL hlt
    have hT : Right ((Turn m c d).getD i zT).1 ((Turn m c d).getD i zT).2.1 ((Turn m c d).getD i zT).2.2 := by
      refine (laid_patch hl hL).right _ ?_
      rw [List.getD_eq_getElem?_getD, List.getElem?_eq_getElem (by omega)]; exact List.getElem_mem _
    rw [e1, show t = (t.1, (t.2.1, t.2.2)) from rfl, (sarea_law _ _ _).2, if_pos hr.1, show (Turn m c d).getD i zT = (((Turn m c d).getD i zT).1, (((Turn m c d).getD i zT).2.1, ((Turn m c d).getD i zT).2.2)) from rfl, (sarea_law _ _ _).2, if_pos hT.1]
    rw [if_neg (by simp), if_neg (by simp), if_neg (by simp), if_neg]
    dsimp only
    have hdet := det_in hr.1.1 hr.1.2.1 hr.1.2.2
    have b1 := mulb (a := Det t.1 t.2.1 t.2.2) (b := d) (A := 134217728) (B := 64) (by omega) (by omega) (by omega) (by omega)
    have b2 := mulb (a := Det t.1 t.2.1 t.2.2 * d) (b := d) (A := 8589934592) (B := 64) (by omega) (by omega) (by omega) (by omega)
    rw [e2, w64_id (n := Det t.1 t.2.1 t.2.2 * d) (by omega) (by omega), w64_id (by omega) (by omega)]
    unfold tmap
    dsimp only
    rw [det_ly]
    simp only [bne_iff_ne, ne_eq, Decidable.not_not]
    grind
  refine ⟨fun q => ⟨by omega, by omega, by omega, (shadow_law _ _ _).1, (sarea_law _ _ _).1, by omega, by omega, by omega, by omega, by omega, by omega, by omega, by omega, by omega, by omega, by omega, by omega, (sarea_law _ _ _).1⟩, fun s' q => ?_, fun r q => ?_⟩
  · split at q
    · rename_i hlt
      have hlt : i < c.2.2.length := by omega
      rw [key hlt] at q
      cases q
      exact ⟨⟨i + 1, by rw [cnt hlt (by omega)], hlt⟩, by rw [cnt hlt (by omega)]; simp only [Int.toNat_natCast]; omega⟩
    · cases q
  · split at q
    · rename_i hlt
      have hlt : i < c.2.2.length := by omega
      rw [key hlt] at q
      cases q
    · cases q; rfl
theorem right_law (x : Msh × (Chr × Int)) : l16right_pre x ∧ l16right x = true := by
  obtain ⟨m, c, d⟩ := x
  have hw := r15few_law m [c]
  unfold l16right_pre l16right
  dsimp only [letP, letV]
  by_cases hg : r15few (m, [c]) = true
  · have hl : c.2.2.length ≤ 20 := (hw.2.1 hg).2.1 c (by simp)
    rw [hg, if_neg (by decide)]
    have hf := flay_law m c d (by omega)
    rcases hf.2 with ⟨_, e, he, hE, _⟩ | ⟨hL, hE⟩
    · rw [hE]
      dsimp only
      have hn : (e != 0) = true := by simpa using he
      rw [if_pos hn, (laid_law false).2]
      exact ⟨⟨hw.1, fun _ => ⟨hf.1, fun _ => (laid_law false).1, fun q => absurd hn q⟩⟩, rfl⟩
    · rw [hE]
      dsimp only
      have htl : (Turn m c d).length = c.2.2.length := by unfold Turn Raw; simp
      have hI := laid_patch (by omega) hL
      have hR := right_loop m c d c.2.2 (Sz (High m c d).1) (Sz (High m c d).2) (by omega) hL
      have hd := hL.dens
      have hn : ¬ (((((Turn m c d).length : Nat) : Int) != ((c.2.2.length : Nat) : Int)) = true) := by simp [htl]
      rw [(fis_law _).2.2 hI, (r1same_law c.2.2 c.2.2 (by omega)).2.2 rfl, if_neg (by decide), if_neg (by decide), if_neg (by decide), if_neg hn, if_neg (by omega), if_neg (by omega), hR.2]
      exact ⟨⟨hw.1, fun _ => ⟨hf.1, fun q => absurd q (by simp), fun _ => ⟨(fis_law _).1, fun _ => ⟨(r1same_law _ _ (by omega)).1, fun _ _ _ _ => ⟨hR.1, (laid_law false).1⟩⟩⟩⟩⟩, (laid_law false).2⟩
  · rw [if_pos (by simpa using hg)]
    exact ⟨⟨hw.1, fun q => absurd (by simpa using hg) q⟩, rfl⟩
end Go.Proofs.Ytpbbnoggkbfkoaa
