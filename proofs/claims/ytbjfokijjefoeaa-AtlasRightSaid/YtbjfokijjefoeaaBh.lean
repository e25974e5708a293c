/- Plain laws: AtlasRight. -/
import Derived.Test.YtbjfokijjefoeaaBg
import Derived.Test.YtbjfokijjefoeaaAk
namespace Go.Proofs.Ytbjfokijjefoeaa
open Go Go.Ev Go.Proofs
set_option linter.unusedVariables false
set_option linter.unusedSimpArgs false
theorem r18big_law (l : Pts) : r18big_pre l ∧ (r18big l = false → l.length ≤ 12) := by
  have key : TR (r18big_l0_step l) (r18big_l0_pre l) (0, 0) fun _ => True := by
    by_cases h12 : l.length ≤ 12
    · refine for_loop l.length (fun i s => s.2 = (i : Int)) _ (fun i s hi hj => ?_) (fun s hj => ?_) rfl
      · obtain ⟨n, z⟩ := s
        dsimp only at hj; subst hj
        refine ⟨?_, ?_⟩
        · unfold r18big_l0_pre letP
          intro _ _
          dsimp only
          rw [Int.toNat_natCast]
          exact ⟨by omega, hi, hi, fun _ => ⟨by omega, hi, hi, hi⟩⟩
        · unfold r18big_l0_step letV
          dsimp only
          rw [if_pos (by omega), if_pos (by omega)]
          split
          · exact .inr ⟨_, rfl, trivial⟩
          · exact .inl ⟨_, rfl, cntI hi (by omega)⟩
      · obtain ⟨n, z⟩ := s
        dsimp only at hj; subst hj
        refine ⟨?_, .inr n, ?_, trivial⟩
        · unfold r18big_l0_pre
          intro q
          dsimp only at q; omega
        · unfold r18big_l0_step
          dsimp only
          rw [if_neg (by omega)]
    · refine TR.stop (r := .inr 0) ?_ ?_ trivial
      · unfold r18big_l0_pre
        intro _ q
        omega
      · unfold r18big_l0_step
        dsimp only
        rw [if_pos (by omega), if_neg (by omega)]
  refine ⟨key.1, ?_⟩
  unfold r18big letV
  dsimp only
  cases run (r18big_l0_step l) (0, 0) with
  | inl a => intro q; cases q
  | inr b =>
    intro q
    have q : (if ((l.length : Nat) : Int) > 12 then true else decide (b > 30)) = false := q
    by_cases c : ((l.length : Nat) : Int) > 12
    · rw [if_pos c] at q; cases q
    · omega
/-- What is built is right. -/
theorem build_is {w h pad : Int} {l : Pts} (hN : Num w h pad) (hR : Rgt l) (hF : Fits (szs l pad)) {q R : List Rct} (hq : packL h (List.replicate w.toNat 0) (szs l pad) = some q) (hP : Put l q R) : IsAtl (w, (h, (pad, (l, R)))) := by
  obtain ⟨hw, hh, hp⟩ := hN
  obtain ⟨p1, p2⟩ := hP
  have hw' := hw
  have hh' := hh
  obtain ⟨w1, w2⟩ := hw
  obtain ⟨h1, h2⟩ := hh
  obtain ⟨k1, k2, k3, _⟩ := packL_ok (w := w.toNat) (h := h) (by omega) h2 (szs l pad) _ q (szs_in1 hR hp hF) (skyH_zero w h hw' hh') hq
  have hql : q.length = l.length := by rw [← szs_len l pad, ← k1, List.length_map]
  have hsurj : ∀ i, i < l.length → ∃ j, j < l.length ∧ (Ord l).getD j 0 = (i : Int) := fun i hi => by
    have := (ord_mem l (i : Int)).2 ⟨by omega, by omega⟩
    obtain ⟨j, hj, e⟩ := List.getElem_of_mem this
    refine ⟨j, by rw [ord_len] at hj; exact hj, ?_⟩
    rw [List.getD_eq_getElem?_getD, List.getElem?_eq_getElem hj]; exact e
  have hget : ∀ j, j < l.length → R.getD ((Ord l).getD j 0).toNat zR = q.getD j zR := p2
  have hsz : ∀ j, j < l.length → (q.getD j zR).2.2 = (szs l pad).getD j (0, 0) := fun j hj => by
    rw [← k1, List.getD_eq_getElem?_getD, List.getD_eq_getElem?_getD, List.getElem?_map, List.getElem?_eq_getElem (by omega)]; rfl
  refine ⟨⟨hw', hh', hp⟩, p1, hR, fun i hi => ?_, fun i hi => ?_⟩
  · obtain ⟨j, hj, e⟩ := hsurj i hi
    have g := hget j hj
    have s := szs_get l pad hj
    rw [e, Int.toNat_natCast] at g s
    show (R.getD i zR).2.2 = _
    rw [g, hsz j hj, s]
  · have hi : i < l.length := by rw [← p1]; exact hi
    obtain ⟨j, hj, e⟩ := hsurj i hi
    have g := hget j hj
    rw [e, Int.toNat_natCast] at g
    show Inb w h (R.getD i zR) ∧ ∀ k, k < i → ApR (R.getD k zR) (R.getD i zR)
    rw [g]
    refine ⟨by have := k2 _ (getD_in (show j < q.length by omega) zR); rwa [show ((w.toNat : Nat) : Int) = w by omega] at this, fun k hk => ?_⟩
    obtain ⟨j', hj', e'⟩ := hsurj k (by omega)
    have g' := hget j' hj'
    rw [e', Int.toNat_natCast] at g'
    rw [g']
    have hne : j' ≠ j := fun z => by subst z; omega
    rw [List.pairwise_iff_getElem] at k3
    have hqj : ∀ x, x < l.length → ∀ hx : x < q.length, q.getD x zR = q[x] := fun x _ hx => by rw [List.getD_eq_getElem?_getD, List.getElem?_eq_getElem hx]; rfl
    rw [hqj j hj (by omega), hqj j' hj' (by omega)]
    rcases Nat.lt_or_ge j' j with z | z
    · exact k3 j' j (by omega) (by omega) z
    · exact (k3 j j' (by omega) (by omega) (by omega)).symm
theorem sametris_self (l : List T2) (hl : l.length < 4611686018427387904) : r16sametris_pre (l, l) ∧ r16sametris (l, l) = true := by
  have key : TR (r16sametris_l0_step (l, l)) (r16sametris_l0_pre (l, l)) 0 fun r => r = .inr () := by
    refine for_loop l.length (fun i s => s = (i : Int)) _ (fun i s hi hj => ?_) (fun s hj => ?_) rfl
    · subst hj
      refine ⟨?_, .inl ⟨_, ?_, rfl⟩⟩
      · unfold r16sametris_l0_pre
        intro _
        dsimp only
        rw [Int.toNat_natCast]
        omega
      · unfold r16sametris_l0_step
        dsimp only
        rw [if_pos (by omega), if_neg (by simp), cntI hi hl]
    · subst hj
      refine ⟨?_, _, ?_, rfl⟩
      · unfold r16sametris_l0_pre
        intro q
        dsimp only at q; omega
      · unfold r16sametris_l0_step
        dsimp only
        rw [if_neg (by omega)]
  unfold r16sametris_pre r16sametris letV
  dsimp only
  refine ⟨fun _ => key.1, ?_⟩
  rw [if_neg (by simp), key.2]; rfl
theorem same_self {p : Ptc} (hp : IsPatch p) : r16same_pre (p, p) ∧ r16same (p, p) = true := by
  have h1 := hp.len
  have h2 := hp.same
  obtain ⟨a1, a2⟩ := r1same_law p.1 p.1 (by omega)
  obtain ⟨b1, b2⟩ := sametris_self p.2.1 (by omega)
  have a3 := a2.2 rfl
  unfold r16same_pre r16same letP letV
  dsimp only
  refine ⟨fun _ _ => ⟨a1, fun _ => b1⟩, ?_⟩
  rw [if_pos (by simp), if_pos (by simp), a3, if_pos rfl, b2]
theorem rgt_loop {w h pad : Int} {l : Pts} (h12 : l.length ≤ 12) (hR : Rgt l) (R : List Rct) : TR (lawRgt_l0_step (w, (h, (pad, l)))) (lawRgt_l0_pre (w, (h, (pad, l)))) (w, (h, (pad, (l, (R, 0))))) fun r => r = .inr () := by
  refine for_loop l.length (fun i st => st = (w, (h, (pad, (l, (R, (i : Int))))))) _ (fun i st hi hj => ?_) (fun st hj => ?_) rfl
  · subst hj
    obtain ⟨s1, s2⟩ := same_self (hR.all _ (getD_in hi zP))
    refine ⟨?_, .inl ⟨_, ?_, rfl⟩⟩
    · unfold lawRgt_l0_pre
      intro _
      dsimp only
      rw [Int.toNat_natCast]
      exact ⟨by omega, hi, hi, by omega, hi, hi, s1⟩
    · unfold lawRgt_l0_step letV
      dsimp only
      rw [if_pos (by omega), Int.toNat_natCast, show r16same (l.getD i ([], ([], (0, 0))), l.getD i ([], ([], (0, 0)))) = true from s2, if_neg (by decide), cntI hi (by omega)]
  · subst hj
    refine ⟨?_, _, ?_, rfl⟩
    · unfold lawRgt_l0_pre
      intro q
      dsimp only at q; omega
    · unfold lawRgt_l0_step
      dsimp only
      rw [if_neg (by omega)]
theorem rgt_pre (w h pad : Int) (l : Pts) : lawRgt_pre (w, (h, (pad, l))) := by
  obtain ⟨g1, g2⟩ := r18big_law l
  obtain ⟨m1, m2⟩ := mapped_law false
  unfold lawRgt_pre
  refine ⟨g1, letP_i fun hb => ?_⟩
  have h12 := g2 (by simpa using hb)
  obtain ⟨b1, b2⟩ := build_law w h pad l h12
  refine ⟨b1, letP_i ⟨fun _ => m1, fun hne => ?_⟩⟩
  rcases b2 with ⟨_, e⟩ | ⟨_, _, _, e⟩ | ⟨hN, hR, hF, q, R, hq, hP, e⟩
  · rw [e] at hne; exact absurd rfl hne
  · rw [e] at hne; exact absurd rfl hne
  · rw [e]
    have hA := build_is hN hR hF hq hP
    have i1 := (is_law (w, (h, (pad, (l, R)))) (by dsimp only; omega) (by dsimp only; rw [hP.1]; omega)).1
    have key := rgt_loop (w := w) (h := h) (pad := pad) h12 hR R
    exact ⟨i1, letP_i fun _ _ _ _ _ => ⟨key.1, letP_i (cS_r key.2 m1)⟩⟩
theorem rgt_val (w h pad : Int) (l : Pts) : lawRgt (w, (h, (pad, l))) = true := by
  obtain ⟨g1, g2⟩ := r18big_law l
  obtain ⟨m1, m2⟩ := mapped_law false
  unfold lawRgt
  rw [m2]
  unfold letV
  dsimp only
  cases hb : r18big l with
  | true => rfl
  | false =>
    have h12 := g2 hb
    have b2 := (build_law w h pad l h12).2
    rw [if_neg (by decide)]
    rcases b2 with ⟨_, e⟩ | ⟨_, _, _, e⟩ | ⟨hN, hR, hF, q, R, hq, hP, e⟩
    · rw [e]; rfl
    · rw [e]; rfl
    · have hA := build_is hN hR hF hq hP
      have i3 := (is_law (w, (h, (pad, (l, R)))) (by dsimp only; omega) (by dsimp only; rw [hP.1]; omega)).2.2 hA
      have key := rgt_loop (w := w) (h := h) (pad := pad) h12 hR R
      rw [e]
      dsimp only
      rw [i3, key.2]
      simp
theorem rgt_law (x : Int × (Int × (Int × Pts))) : lawRgt_pre x ∧ lawRgt x = true := ⟨rgt_pre x.1 x.2.1 x.2.2.1 x.2.2.2, rgt_val x.1 x.2.1 x.2.2.1 x.2.2.2⟩
end Go.Proofs.Ytbjfokijjefoeaa
