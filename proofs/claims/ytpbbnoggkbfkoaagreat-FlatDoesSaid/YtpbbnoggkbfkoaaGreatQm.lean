/- Plain laws: the references of layer 16 say what the program says (2). -/
import Derived.Test.YtpbbnoggkbfkoaaGreatQl
import Derived.Test.YtpbbnoggkbfkoaaGreatFj
import Derived.Test.YtpbbnoggkbfkoaaGreatQg0
namespace Go.Proofs.YtpbbnoggkbfkoaaGreat
open Go Go.Ev Go.Proofs
theorem r1own_law (l : List Int) (hl : l.length < 1099511627776) : r1own_pre l ∧ r1own l = l := ⟨by unfold r1own_pre; omega, rfl⟩
/-- What is laid, to the number. -/
theorem flay_eq (m : Msh) (c : Chr) (d : Int) (hl : c.2.2.length < 1099511627776) (hd : 1 ≤ d ∧ d ≤ 64) (hf : ∀ j ∈ c.2.2, Fits m c j) : flay (m, (c, d)) =
    if ((fbox (Raw m c)).2.2 != 0) = true then (noP, 1) else if maxI (High m c d).1 (High m c d).2 > 4096 then (noP, 2) else if (!fapart (Turn m c d)) = true then (noP, 1) else ((c.2.2, (Turn m c d, (Sz (High m c d).1, Sz (High m c d).2))), 0) := by
  obtain ⟨hT, hR⟩ := flay_loop m c d hl
  have hrl : (Raw m c).length = c.2.2.length := by unfold Raw; simp
  have htl := turnedL_law (Raw m c) (fbox (Raw m c)).1 d (by omega)
  rcases hR with ⟨_, j, hj, hn⟩ | ⟨e, _⟩
  · exact absurd (hf j hj) hn
  · unfold flay
    dsimp only [letV]
    rw [if_neg (by omega), if_neg (by omega), e]
    dsimp only [Sum.elim_inr]
    rw [show turnedL (Raw m c, ((fbox (Raw m c)).1, d)) = Turn m c d from htl.2, show layc ((fbox (Raw m c)).2.1, ((fbox (Raw m c)).1, d)) = High m c d from rfl, fsizes_law]
    rfl
theorem flay_bad (m : Msh) (c : Chr) (d : Int) (hl : c.2.2.length < 1099511627776) (h : ¬ (1 ≤ d ∧ d ≤ 64) ∨ ¬ ∀ j ∈ c.2.2, Fits m c j) : flay (m, (c, d)) = (noP, 1) := by
  by_cases hd : 1 ≤ d ∧ d ≤ 64
  · have hn := h.resolve_left fun q => q hd
    rcases (flay_law m c d hl).2 with ⟨_, e, _, hE, h1⟩ | ⟨hL, _⟩
    · rw [hE, h1 hn]
    · exact absurd hL.fits hn
  · unfold flay
    dsimp only [letV]
    by_cases h1 : d < 1
    · rw [if_pos h1]
    · rw [if_neg h1, if_pos (by omega)]
def RFits (m : Msh) (c : Chr) (j : Int) : Prop := facing (m, j) = (c.1, (c.2.1, true))
theorem rfits_iff {m : Msh} {c : Chr} {j : Int} : RFits m c j ↔ Fits m c j := by
  refine ⟨fun h => ⟨h, ?_⟩, fun h => h.1⟩
  have h1 : facing (m, j) = (c.1, (c.2.1, true)) := h
  rw [(facing_law m j).2] at h1
  split at h1
  · rename_i hm
    split at h1
    · simp at h1
    · have ha : Ax (Nm m j) = c.1 := congrArg (·.1) h1
      have hin := ax_in (Nm m j)
      rw [(shadow_law m j c.1).2, if_pos ⟨hm.1, hm.2, by omega⟩]
  · simp at h1
def RLayOut (m : Msh) (c : Chr) (r : Unit ⊕ List T2) : Prop := (r = .inl () ∧ ∃ j ∈ c.2.2, ¬ Fits m c j) ∨ (r = .inr (Raw m c) ∧ ∀ j ∈ c.2.2, Fits m c j)
theorem r16lay_loop (m : Msh) (c : Chr) (d : Int) (hl : c.2.2.length < 1099511627776) (hm : m.1.length < 4611686018427387904) : Term (r16lay_l0_step (m, (c, d))) (r16lay_l0_pre (m, (c, d))) ([], 0) ∧ RLayOut m c (run (r16lay_l0_step (m, (c, d))) ([], 0)) := by
  refine loop_inv (step := r16lay_l0_step (m, (c, d))) (pre := r16lay_l0_pre (m, (c, d))) (fun s => ∃ i : Nat, s = ((c.2.2.take i).map (fun j => (shadow (m, (j, c.1))).1), (i : Int)) ∧ i ≤ c.2.2.length ∧ ∀ j ∈ c.2.2.take i, Fits m c j)
    (fun s => c.2.2.length - s.2.toNat) (RLayOut m c) (fun s hs => ?_) _ ⟨0, rfl, Nat.zero_le _, fun j hj => (by simp at hj)⟩
  obtain ⟨i, rfl, hi, hf⟩ := hs
  unfold r16lay_l0_step r16lay_l0_pre
  dsimp only [letV, letP]
  simp only [Int.toNat_natCast]
  have eF := (r15facing_law m (c.2.2.getD i 0) hm).2
  have eS := (r15shadow_law m (c.2.2.getD i 0) c.1 hm).2
  refine ⟨fun h => ⟨⟨by omega, by omega⟩, by omega, by omega, (r15facing_law _ _ hm).1, fun _ _ _ => ⟨⟨by omega, by omega⟩, by omega, by omega, (r15shadow_law _ _ _ hm).1, by simp; omega⟩⟩, ?_⟩
  simp only [eF, eS]
  by_cases hlt : i < c.2.2.length
  · have hg : c.2.2.getD i 0 = c.2.2[i] := by rw [List.getD_eq_getElem?_getD, List.getElem?_eq_getElem hlt]; rfl
    have hmem : c.2.2.getD i 0 ∈ c.2.2 := by rw [hg]; exact List.getElem_mem _
    rw [if_pos (by omega)]
    by_cases hF : RFits m c (c.2.2.getD i 0)
    · have h1 : facing (m, c.2.2.getD i 0) = (c.1, (c.2.1, true)) := hF
      simp only [h1]
      rw [if_neg (by simp), if_neg (by simp), if_neg (by simp), cnt hlt (by omega)]
      refine ⟨fun s' q => ?_, fun r q => (by cases q)⟩
      cases q
      refine ⟨⟨i + 1, ?_, hlt, fun j hj => ?_⟩, by simp only [Int.toNat_natCast]; omega⟩
      · rw [List.take_succ_eq_append_getElem hlt, List.map_append, hg]; rfl
      · rw [List.take_succ_eq_append_getElem hlt] at hj
        rcases List.mem_append.1 hj with hj | hj
        · exact hf j hj
        · simp only [List.mem_singleton] at hj
          rw [hj, ← hg]; exact rfits_iff.1 hF
    · have : ∀ {α : Type} (A B : α), (if ((!(facing (m, c.2.2.getD i 0)).2.2) = true) then A else if (((facing (m, c.2.2.getD i 0)).1 != c.1) = true) then A else if (((facing (m, c.2.2.getD i 0)).2.1 != c.2.1) = true) then A else B) = A := fun A B => by
        by_cases h1 : (facing (m, c.2.2.getD i 0)).2.2 = true
        · by_cases h2 : (facing (m, c.2.2.getD i 0)).1 = c.1
          · by_cases h3 : (facing (m, c.2.2.getD i 0)).2.1 = c.2.1
            · exact absurd (show facing (m, c.2.2.getD i 0) = (c.1, (c.2.1, true)) from by rw [← h1, ← h2, ← h3]) hF
            · rw [if_neg (by rw [h1]; decide), if_neg (by rw [h2]; simp), if_pos (bne_iff_ne.2 h3)]
          · rw [if_neg (by rw [h1]; decide), if_pos (bne_iff_ne.2 h2)]
        · rw [if_pos (by rw [Bool.eq_false_iff.2 h1]; rfl)]
      rw [this]
      exact ⟨fun s' q => (by cases q), fun r q => by cases q; exact .inl ⟨rfl, _, hmem, fun q => hF (rfits_iff.2 q)⟩⟩
  · rw [if_neg (by omega)]
    refine ⟨fun s' q => (by cases q), fun r q => ?_⟩
    cases q
    have : i = c.2.2.length := by omega
    subst this
    rw [List.take_length] at hf
    exact .inr ⟨by rw [List.take_length]; rfl, hf⟩
theorem r16lay_turn (m : Msh) (c : Chr) (d : Int) (l : List T2) (lo hi : P2) (hl : l.length < 1000000) : Term (r16lay_l2_step (m, (c, d))) (r16lay_l2_pre (m, (c, d))) (l, (lo.1, (lo.2, (hi.1, (hi.2, ([], 0)))))) ∧
    run (r16lay_l2_step (m, (c, d))) (l, (lo.1, (lo.2, (hi.1, (hi.2, ([], 0)))))) = (lo.1, (lo.2, (hi.1, (hi.2, l.map (tmap fun p => layc (p, (lo, d))))))) := by
  refine loop_inv (step := r16lay_l2_step (m, (c, d))) (pre := r16lay_l2_pre (m, (c, d))) (fun s => ∃ i : Nat, s = (l, (lo.1, (lo.2, (hi.1, (hi.2, ((l.take i).map (tmap fun p => layc (p, (lo, d))), (i : Int))))))) ∧ i ≤ l.length)
    (fun s => l.length - s.2.2.2.2.2.2.toNat) (fun r => r = (lo.1, (lo.2, (hi.1, (hi.2, l.map (tmap fun p => layc (p, (lo, d)))))))) (fun s hs => ?_) _ ⟨0, rfl, Nat.zero_le _⟩
  obtain ⟨i, rfl, hi'⟩ := hs
  unfold r16lay_l2_step r16lay_l2_pre
  dsimp only
  simp only [Int.toNat_natCast, List.length_map, List.length_take]
  refine ⟨fun q => by omega, ?_⟩
  by_cases hlt : i < l.length
  · have hg : l.getD i zT = l[i] := by rw [List.getD_eq_getElem?_getD, List.getElem?_eq_getElem hlt]; rfl
    rw [if_pos (by omega), cnt hlt (by omega)]
    refine ⟨fun s' q => ?_, fun r q => (by cases q)⟩
    cases q
    refine ⟨⟨i + 1, ?_, hlt⟩, by simp only [Int.toNat_natCast]; omega⟩
    rw [List.take_succ_eq_append_getElem hlt, List.map_append, ← hg]
    rfl
  · rw [if_neg (by omega)]
    refine ⟨fun s' q => (by cases q), fun r q => ?_⟩
    cases q
    have : i = l.length := by omega
    subst this
    rw [List.take_length]
theorem r16lay_law (m : Msh) (c : Chr) (d : Int) (hl : c.2.2.length ≤ 1000) (hm : m.1.length < 4611686018427387904) : r16lay_pre (m, (c, d)) ∧ r16lay (m, (c, d)) = flay (m, (c, d)) := by
  have ht := r15tame_law m hm
  obtain ⟨hT, hR⟩ := r16lay_loop m c d (by omega) hm
  have hrl : (Raw m c).length = c.2.2.length := by unfold Raw; simp
  have hb := r16box_law (Raw m c) (by omega)
  have htu := r16lay_turn m c d (Raw m c) (fbox (Raw m c)).1 (fbox (Raw m c)).2.1 (by omega)
  have hap := r16apart_law (Turn m c d) (by unfold Turn; simp; omega)
  have ho := r1own_law c.2.2 (by omega)
  unfold r16lay_pre r16lay
  dsimp only [letP, letV]
  rw [ht.2]
  by_cases htm : tameB m = true
  · rw [htm, if_neg (by decide)]
    by_cases h0 : (((c.2.2.length : Nat) : Int) == 0) = true
    · refine ⟨⟨ht.1, fun _ q => absurd h0 q⟩, ?_⟩
      rw [if_pos h0]
      by_cases hd : 1 ≤ d ∧ d ≤ 64
      · have hn : c.2.2 = [] := List.length_eq_zero_iff.1 (by simpa using h0)
        rw [flay_eq m c d (by omega) hd (fun j hj => by rw [hn] at hj; simp at hj)]
        have hr : Raw m c = [] := by unfold Raw; rw [hn]; rfl
        rw [hr]
        rcases (fbox_law [] (by simp)).2 with ⟨_, e⟩ | ⟨⟨p, hp, _⟩, _⟩ | ⟨g, _⟩
        · rw [e]; rfl
        · simp [pts] at hp
        · exact absurd rfl g
      · rw [flay_bad m c d (by omega) (.inl hd)]
    · rw [if_neg h0]
      by_cases hd : 1 ≤ d ∧ d ≤ 64
      · rw [if_neg (by omega), if_neg (by omega)]
        rcases hR with ⟨e, j, hj, hn⟩ | ⟨e, hf⟩
        · rw [e, flay_bad m c d (by omega) (.inr fun q => hn (q j hj))]
          exact ⟨⟨ht.1, fun _ _ _ _ => ⟨hT, trivial⟩⟩, rfl⟩
        · rw [e, flay_eq m c d (by omega) hd hf]
          dsimp only [Sum.elim_inr, cS]
          have h0' : Raw m c ≠ [] := fun q => by
            rw [q] at hrl; simp only [List.length_nil] at hrl
            rw [← hrl] at h0; exact h0 rfl
          have hbox : (fbox (Raw m c)).2.2 = 0 := by
            rcases (fbox_law (Raw m c) (by omega)).2 with ⟨g, _⟩ | ⟨⟨p, hp, g⟩, _⟩ | ⟨_, _, lo, hi, _, e⟩
            · exact absurd g h0'
            · exact absurd (pts_sm (fun t => raw_right hf (t := t)) p hp) g
            · rw [e]
          rw [hb.2, if_neg (c := ((fbox (Raw m c)).2.2 != 0) = true) (by rw [hbox]; decide)]
          have e1 : w64 (w64 ((fbox (Raw m c)).2.1.1 - (fbox (Raw m c)).1.1) * d) = (High m c d).1 := rfl
          have e2 : w64 (w64 ((fbox (Raw m c)).2.1.2 - (fbox (Raw m c)).1.2) * d) = (High m c d).2 := rfl
          have e3 : (Raw m c).map (tmap fun p => layc (p, ((fbox (Raw m c)).1, d))) = Turn m c d := rfl
          rw [e1, e2]
          have g := maxI_le (High m c d).1 (High m c d).2
          rw [htu.2, e3]
          dsimp only
          rw [e1, e2]
          refine ⟨⟨ht.1, fun _ _ _ _ => ⟨hT, hb.1, fun _ _ => ⟨htu.1, hap.1, fun _ => ho.1⟩⟩⟩, ?_⟩
          by_cases h4 : maxI (High m c d).1 (High m c d).2 > 4096
          · rw [if_pos h4]
            by_cases h5 : (High m c d).1 > 4096
            · rw [if_pos h5]
            · rw [if_neg h5, if_pos (by omega)]
          · rw [if_neg h4, if_neg (by omega), if_neg (by omega), hap.2]
            by_cases h5 : (!fapart (Turn m c d)) = true
            · rw [if_pos h5, if_pos h5]
            · rw [if_neg h5, if_neg h5, r16size_law, r16size_law, fsize_law, fsize_law, ho.2]
      · rw [flay_bad m c d (by omega) (.inl hd)]
        by_cases h1 : d < 1
        · rw [if_pos h1]
          exact ⟨⟨ht.1, fun _ _ q => absurd h1 q⟩, rfl⟩
        · rw [if_neg h1, if_pos (by omega)]
          exact ⟨⟨ht.1, fun _ _ _ q => absurd (by omega) q⟩, rfl⟩
  · have hf : tameB m = false := by simpa using htm
    rw [hf, if_pos (by decide)]
    refine ⟨⟨ht.1, fun q => absurd rfl q⟩, ?_⟩
    by_cases hd : 1 ≤ d ∧ d ≤ 64
    · by_cases hn : c.2.2 = []
      · rw [flay_eq m c d (by omega) hd (fun j hj => by rw [hn] at hj; simp at hj)]
        have hr : Raw m c = [] := by unfold Raw; rw [hn]; rfl
        rw [hr]
        rcases (fbox_law [] (by simp)).2 with ⟨_, e⟩ | ⟨⟨p, hp, _⟩, _⟩ | ⟨g, _⟩
        · rw [e]; rfl
        · simp [pts] at hp
        · exact absurd rfl g
      · obtain ⟨j, hj⟩ := List.exists_mem_of_ne_nil _ hn
        rw [flay_bad m c d (by omega) (.inr fun q => by
          have := (q j hj).1
          rw [(facing_law m j).2, if_neg (fun z => htm z.1)] at this
          simp at this)]
    · rw [flay_bad m c d (by omega) (.inl hd)]
theorem r16move_loop (x : Ptc) (b : P2) (hl : x.2.1.length < 1000000) : Term (r16move_l0_step (x, b)) (r16move_l0_pre (x, b)) ([], 0) ∧ run (r16move_l0_step (x, b)) ([], 0) = x.2.1.map (tmap fun p => movec (p, b)) := by
  refine loop_inv (step := r16move_l0_step (x, b)) (pre := r16move_l0_pre (x, b)) (fun s => ∃ i : Nat, s = ((x.2.1.take i).map (tmap fun p => movec (p, b)), (i : Int)) ∧ i ≤ x.2.1.length)
    (fun s => x.2.1.length - s.2.toNat) (fun r => r = x.2.1.map (tmap fun p => movec (p, b))) (fun s hs => ?_) _ ⟨0, rfl, Nat.zero_le _⟩
  obtain ⟨i, rfl, hi'⟩ := hs
  unfold r16move_l0_step r16move_l0_pre
  dsimp only
  simp only [Int.toNat_natCast, List.length_map, List.length_take]
  refine ⟨fun q => by omega, ?_⟩
  by_cases hlt : i < x.2.1.length
  · have hg : x.2.1.getD i zT = x.2.1[i] := by rw [List.getD_eq_getElem?_getD, List.getElem?_eq_getElem hlt]; rfl
    rw [if_pos (by omega), cnt hlt (by omega)]
    refine ⟨fun s' q => ?_, fun r q => (by cases q)⟩
    cases q
    refine ⟨⟨i + 1, ?_, hlt⟩, by simp only [Int.toNat_natCast]; omega⟩
    rw [List.take_succ_eq_append_getElem hlt, List.map_append, ← hg]
    rfl
  · rw [if_neg (by omega)]
    refine ⟨fun s' q => (by cases q), fun r q => ?_⟩
    cases q
    have : i = x.2.1.length := by omega
    subst this
    rw [List.take_length]
theorem r16move_law (x : Ptc) (b : P2) (hl : x.2.1.length < 1000000) : r16move_pre (x, b) ∧ r16move (x, b) = fmove (x, b) := by
  have hI := r16is_law x
  have hL := r16move_loop x b hl
  have hM := (fmove_law x b).2
  unfold r16move_pre r16move
  dsimp only [letP, letV]
  refine ⟨⟨hI.1, fun _ _ _ _ _ => hL.1⟩, ?_⟩
  rw [hI.2, hL.2]
  rcases hM with ⟨h, e⟩ | ⟨h, hb, e⟩ | ⟨h, hb, e⟩
  · have : fis x = false := by rw [Bool.eq_false_iff]; exact fun q => h ((fis_law x).2.1 q)
    rw [e, this]; rfl
  · rw [e, (fis_law x).2.2 h, if_neg (by decide)]
    split
    · rfl
    · split
      · rfl
      · split
        · rfl
        · split
          · rfl
          · exact absurd (by omega) hb
  · rw [e, (fis_law x).2.2 h, if_neg (by decide), if_neg (by omega), if_neg (by omega), if_neg (by omega), if_neg (by omega)]
theorem t2_eq (a b : T2) : ((((a.1.1 == b.1.1) && ((a.1.2 == b.1.2) && true)) && (((a.2.1.1 == b.2.1.1) && ((a.2.1.2 == b.2.1.2) && true)) && (((a.2.2.1 == b.2.2.1) && ((a.2.2.2 == b.2.2.2) && true)) && true))) = true) ↔ a = b := by
  obtain ⟨⟨a1, a2⟩, ⟨a3, a4⟩, a5, a6⟩ := a
  obtain ⟨⟨b1, b2⟩, ⟨b3, b4⟩, b5, b6⟩ := b
  simp only [Bool.and_true, Bool.and_eq_true, beq_iff_eq, Prod.mk.injEq]
theorem sametris_law (a : List T2) (hl : a.length < 4611686018427387904) : r16sametris_pre (a, a) ∧ r16sametris (a, a) = true := by
  unfold r16sametris_pre r16sametris
  dsimp only [letP, letV]
  have hn : ¬ ((((a.length : Nat) : Int) != ((a.length : Nat) : Int)) = true) := by simp
  have hh := all_loop a hl (fun _ => false) (r16sametris_l0_step (a, a)) (r16sametris_l0_pre (a, a)) (fun i hi => by
      unfold r16sametris_l0_pre
      dsimp only
      intro q
      simp only [Int.toNat_natCast]; omega) (fun i t ht => by
      have hlt := lt_of_get ht
      unfold r16sametris_l0_step
      dsimp only
      rw [if_pos (by omega), Int.toNat_natCast, getD_of ht, if_neg (by rw [(t2_eq t t).2 rfl]; decide), if_neg (by decide)]) (by
      unfold r16sametris_l0_step
      dsimp only
      rw [if_neg (by omega)])
  refine ⟨fun _ => hh.1, ?_⟩
  rw [if_neg hn, hh.2]
  simp
theorem same_law (x : Ptc) (h1 : x.1.length < 4611686018427387904) (h2 : x.2.1.length < 4611686018427387904) : r16same_pre (x, x) ∧ r16same (x, x) = true := by
  have a := r1same_law x.1 x.1 h1
  have b := sametris_law x.2.1 h2
  unfold r16same_pre r16same
  dsimp only [letP, letV]
  refine ⟨fun _ _ => ⟨a.1, fun _ => b.1⟩, ?_⟩
  rw [if_pos (by simp), if_pos (by simp), a.2.2 rfl, if_pos rfl, b.2]
end Go.Proofs.YtpbbnoggkbfkoaaGreat
