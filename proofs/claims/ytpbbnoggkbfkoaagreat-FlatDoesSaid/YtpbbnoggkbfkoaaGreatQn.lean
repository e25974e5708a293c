/- FlatDoes' function answers true, whatever its input. -/
import Derived.Test.YtpbbnoggkbfkoaaGreatQm
import Derived.Test.YtpbbnoggkbfkoaaGreatFk
namespace Go.Proofs.YtpbbnoggkbfkoaaGreat
open Go Go.Ev Go.Proofs
abbrev DoesX : Type := Msh × (Chr × (Int × (Ptc × (P2 × Int))))
theorem does_loop (x : DoesX) (p : Ptc) (l : List T2) (b : Bool) (hl : l.length < 1000000) : Term (l16does_l0_step x) (l16does_l0_pre x) (p.1, (p.2.1, (p.2.2.1, (p.2.2.2, (l, (b, 0)))))) ∧
    run (l16does_l0_step x) (p.1, (p.2.1, (p.2.2.1, (p.2.2.2, (l, (b, 0)))))) = (p.1, (p.2.1, (p.2.2.1, (p.2.2.2, b)))) := by
  refine loop_inv (step := l16does_l0_step x) (pre := l16does_l0_pre x) (fun s => ∃ (i : Nat) (u : List T2), s = (p.1, (p.2.1, (p.2.2.1, (p.2.2.2, (u, (b, (i : Int))))))) ∧ i ≤ l.length ∧ u.length = l.length)
    (fun s => l.length - s.2.2.2.2.2.2.toNat) (fun r => r = (p.1, (p.2.1, (p.2.2.1, (p.2.2.2, b))))) (fun s hs => ?_) _ ⟨0, l, rfl, Nat.zero_le _, rfl⟩
  obtain ⟨i, u, rfl, hi, hu⟩ := hs
  unfold l16does_l0_step l16does_l0_pre
  dsimp only [letV]
  simp only [Int.toNat_natCast]
  refine ⟨fun q => by omega, ?_⟩
  by_cases hlt : i < l.length
  · rw [if_pos (by omega), cnt hlt (by omega)]
    refine ⟨fun s' q => ?_, fun r q => (by cases q)⟩
    cases q
    exact ⟨⟨i + 1, _, rfl, hlt, by rw [List.length_set]; exact hu⟩, by simp only [Int.toNat_natCast]; omega⟩
  · rw [if_neg (by omega)]
    exact ⟨fun s' q => (by cases q), fun r q => by cases q; rfl⟩
theorem does_law (x : DoesX) : l16does_pre x ∧ l16does x = true := by
  obtain ⟨m, c, d, p, b, n⟩ := x
  have hw := r15few_law m [c]
  unfold l16does_pre l16does
  dsimp only [letP, letV]
  by_cases hg : r15few (m, [c]) = true
  · obtain ⟨_, hc, hm, _⟩ := hw.2.1 hg
    have hcl : c.2.2.length ≤ 20 := hc c (by simp)
    rw [hg, if_neg (by decide)]
    by_cases hb : r16big p = true
    · rw [if_pos hb]
      exact ⟨⟨hw.1, fun _ q => absurd hb q⟩, rfl⟩
    · have hbl : p.1.length ≤ 15 ∧ p.2.1.length ≤ 15 := Classical.byContradiction fun q => hb ((r16big_law p).2 q)
      rw [if_neg hb]
      have eo : r16own p = p := rfl
      have h1 := flay_law m c d (by omega)
      have h2 := r16lay_law m c d (by omega) (by omega)
      have h3 := fmove_law p b
      have h4 := r16move_law p b (by omega)
      have h5 := fbox_law p.2.1 (by omega)
      have h6 := r16box_law p.2.1 (by omega)
      have hlay : (flay (m, (c, d))).1.1.length < 4611686018427387904 ∧ (flay (m, (c, d))).1.2.1.length < 4611686018427387904 := by
        rcases h1.2 with ⟨_, e, _, hE, _⟩ | ⟨_, hE⟩
        · rw [hE]; exact ⟨by simp, by simp⟩
        · rw [hE]
          have : (Turn m c d).length = c.2.2.length := by unfold Turn Raw; simp
          dsimp only; omega
      have h7 := same_law (flay (m, (c, d))).1 hlay.1 hlay.2
      have hmv : (fmove (p, b)).1.length < 1000000 := by
        rcases h3.2 with ⟨_, e⟩ | ⟨_, _, e⟩ | ⟨_, _, e⟩
        · rw [e]; decide
        · rw [e]; decide
        · rw [e]; simp; omega
      have h8 := sametris_law (fmove (p, b)).1 (by omega)
      have h9 := same_law p (by omega) (by omega)
      have hL := does_loop (m, (c, (d, (p, (b, n))))) p (fmove (p, b)).1 true hmv
      have hI := r16is_law p
      have hd := laid_law false
      have q1 : ∀ a : Int, (a == a) = true := fun a => by simp
      have q2 : ∀ a : P2, ((a.1 == a.1) && ((a.2 == a.2) && true)) = true := fun a => by simp
      rw [eo, h2.2, h4.2, h6.2, r16size_law, h7.2, h8.2, hd.2]
      simp only [q1, if_true, true_implies, not_true_eq_false, false_implies, and_true, true_and, Bool.and_self, Bool.and_true]
      rw [hL.2]
      dsimp only
      rw [show (p.1, (p.2.1, (p.2.2.1, p.2.2.2))) = p from rfl, hI.2, h9.2]
      refine ⟨⟨hw.1, fun _ _ => ⟨?_, h1.1, h2.1, h3.1, h4.1, h5.1, h6.1, h7.1, h8.1, hL.1, hd.1, fun _ => ⟨(fis_law p).1, hI.1, fun _ => h9.1⟩⟩⟩, by simp⟩
      exact ⟨(r1own_law _ (by omega)).1, by show 0 + p.2.1.length < 1099511627776; omega⟩
  · rw [if_pos (by simpa using hg)]
    exact ⟨⟨hw.1, fun q => absurd (by simpa using hg) q⟩, rfl⟩
end Go.Proofs.YtpbbnoggkbfkoaaGreat
