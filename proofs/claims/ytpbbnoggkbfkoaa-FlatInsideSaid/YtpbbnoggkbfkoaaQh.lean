/- FlatInside's function answers true, whatever its input. -/
import Derived.Test.YtpbbnoggkbfkoaaQf
import Derived.Test.YtpbbnoggkbfkoaaFgb
namespace Go.Proofs.Ytpbbnoggkbfkoaa
open Go Go.Ev Go.Proofs
section
variable (x : Ptc) (hI : IsPatch x)
include hI
theorem patch_box (h0 : x.2.1 ≠ []) : ∃ hi : P2, IsBox (pts x.2.1) z2 hi ∧ Sm hi ∧ x.2.2.1 = hi.1 / 16 + 1 ∧ x.2.2.2 = hi.2 / 16 + 1 := by
  have hl := hI.len
  have hs := hI.same
  rcases (fbox_law x.2.1 (by omega)).2 with ⟨h, _⟩ | ⟨_, e⟩ | ⟨_, hsm, lo, hi, hB, e⟩
  · exact absurd h h0
  · have := hI.ok; rw [e] at this; cases this
  · have hz := hI.zero
    have hw := hI.w
    have hh := hI.h
    rw [e] at hz hw hh
    dsimp only at hz hw hh
    subst hz
    obtain ⟨p1, k1, e1⟩ := hB.h1
    obtain ⟨p2, k2, e2⟩ := hB.h2
    have s1 := hsm p1 k1
    have s2 := hsm p2 k2
    have g1 := hB.low p1 k1
    have g2 := hB.low p2 k2
    dsimp only at g1 g2
    refine ⟨hi, hB, ⟨by omega, by omega⟩, ?_, ?_⟩
    · rw [hw]; unfold Sz; rw [if_neg (by omega), if_neg (by omega)]
    · rw [hh]; unfold Sz; rw [if_neg (by omega), if_neg (by omega)]
/-- All that is counted in a round. -/
def InOut (x : Ptc) (i : Nat) (r : Unit ⊕ (Int × (Int × Int))) : Prop := ∃ f l : Int, r = .inr (f, (l, (i : Int))) ∧ (0 ≤ f ∧ f ≤ 3 * i + 3) ∧ (0 ≤ l ∧ l ≤ 3 * i + 3) ∧ Sn f (pts (x.2.1.take (i + 1))) (fun p => p.1 = 0) ∧ Sn l (pts (x.2.1.take (i + 1))) (fun p => p.1 / 16 = x.2.2.1 - 1)
theorem in_two (i : Nat) (hi : i < x.2.1.length) (f l : Int) (hf : 0 ≤ f ∧ f ≤ 3 * i) (hl : 0 ≤ l ∧ l ≤ 3 * i) (nf : Sn f (pts (x.2.1.take i)) fun p => p.1 = 0) (nl : Sn l (pts (x.2.1.take i)) fun p => p.1 / 16 = x.2.2.1 - 1) :
    Term (l16inside_l2_step x) (l16inside_l2_pre x) (f, (l, ((i : Int), 0))) ∧ InOut x i (run (l16inside_l2_step x) (f, (l, ((i : Int), 0)))) := by
  have hlen := hI.len
  have hsame := hI.same
  obtain ⟨h, hB, hS, hw, hh⟩ := patch_box x hI (fun q => by rw [q] at hi; simp at hi)
  refine loop_inv (step := l16inside_l2_step x) (pre := l16inside_l2_pre x) (fun s => ∃ (f l : Int) (k : Nat), s = (f, (l, ((i : Int), (k : Int)))) ∧ k ≤ 3 ∧ (0 ≤ f ∧ f ≤ 3 * i + k) ∧ (0 ≤ l ∧ l ≤ 3 * i + k) ∧
      Sn f (pts (x.2.1.take i) ++ (tp (x.2.1.getD i zT)).take k) (fun p => p.1 = 0) ∧ Sn l (pts (x.2.1.take i) ++ (tp (x.2.1.getD i zT)).take k) (fun p => p.1 / 16 = x.2.2.1 - 1))
    (fun s => 3 - s.2.2.2.toNat) (InOut x i) (fun s hs => ?_) _ ⟨f, l, 0, rfl, by omega, by omega, by omega, by simpa using nf, by simpa using nl⟩
  obtain ⟨f, l, k, rfl, hk, hf, hl, nf, nl⟩ := hs
  unfold l16inside_l2_step l16inside_l2_pre
  dsimp only
  simp only [Int.toNat_natCast]
  refine ⟨fun q => ⟨by omega, by omega, by omega, by omega, by omega, by omega⟩, fun s' q => ?_, fun r q => ?_⟩
  · split at q
    · rename_i hlt
      have hlt : k < 3 := by omega
      obtain ⟨e1, e2⟩ := six (x.2.1.getD i zT) hlt
      simp only [e1, e2] at q
      have hm : pk (x.2.1.getD i zT) k ∈ pts x.2.1 := mem_pts hi (pk_mem _ hlt)
      have b1 := hB.low _ hm
      have b2 := hB.high _ hm
      dsimp only at b1
      have et : w64 ((pk (x.2.1.getD i zT) k).1.tdiv 16) = (pk (x.2.1.getD i zT) k).1 / 16 := by rw [Int.tdiv_eq_ediv_of_nonneg (by omega), w64_id (by omega) (by omega)]
      have et2 : w64 ((pk (x.2.1.getD i zT) k).2.tdiv 16) = (pk (x.2.1.getD i zT) k).2 / 16 := by rw [Int.tdiv_eq_ediv_of_nonneg (by omega), w64_id (by omega) (by omega)]
      have ew : w64 (x.2.2.1 - 1) = x.2.2.1 - 1 := w64_id (by omega) (by omega)
      have ef : w64 (f + 1) = f + 1 := w64_id (by omega) (by omega)
      have el : w64 (l + 1) = l + 1 := w64_id (by omega) (by omega)
      have ek : w64 ((k : Int) + 1) = ((k + 1 : Nat) : Int) := cnt (n := 3) hlt (by omega)
      simp only [et, et2, ew, ef, el, ek] at q
      rw [if_neg (by omega), if_neg (by omega), if_neg (by omega), if_neg (by omega)] at q
      have hmu : ∀ a b : Int, 3 - Int.toNat ((k + 1 : Nat) : Int) < 3 - Int.toNat (k : Int) := fun _ _ => by simp only [Int.toNat_natCast]; omega
      rw [Int.toNat_natCast] at hmu
      split at q
      · rename_i c1
        split at q
        · rename_i c2
          cases q
          exact ⟨⟨_, _, k + 1, rfl, hlt, by omega, by omega, by rw [tp_succ _ hlt, ← List.append_assoc]; exact Sn.yes hf.1, by rw [tp_succ _ hlt, ← List.append_assoc]; exact Sn.yes hl.1⟩, hmu 0 0⟩
        · rename_i c2
          cases q
          exact ⟨⟨_, _, k + 1, rfl, hlt, by omega, by omega, by rw [tp_succ _ hlt, ← List.append_assoc]; exact Sn.yes hf.1, by rw [tp_succ _ hlt, ← List.append_assoc]; exact nl.no (by simpa using c2)⟩, hmu 0 0⟩
      · rename_i c1
        split at q
        · rename_i c2
          cases q
          exact ⟨⟨_, _, k + 1, rfl, hlt, by omega, by omega, by rw [tp_succ _ hlt, ← List.append_assoc]; exact nf.no (by simpa using c1), by rw [tp_succ _ hlt, ← List.append_assoc]; exact Sn.yes hl.1⟩, hmu 0 0⟩
        · rename_i c2
          cases q
          exact ⟨⟨_, _, k + 1, rfl, hlt, by omega, by omega, by rw [tp_succ _ hlt, ← List.append_assoc]; exact nf.no (by simpa using c1), by rw [tp_succ _ hlt, ← List.append_assoc]; exact nl.no (by simpa using c2)⟩, hmu 0 0⟩
    · cases q
  · split at q
    · rename_i hlt
      have hlt : k < 3 := by omega
      obtain ⟨e1, e2⟩ := six (x.2.1.getD i zT) hlt
      simp only [e1, e2] at q
      have hm : pk (x.2.1.getD i zT) k ∈ pts x.2.1 := mem_pts hi (pk_mem _ hlt)
      have b1 := hB.low _ hm
      have b2 := hB.high _ hm
      dsimp only at b1
      have et : w64 ((pk (x.2.1.getD i zT) k).1.tdiv 16) = (pk (x.2.1.getD i zT) k).1 / 16 := by rw [Int.tdiv_eq_ediv_of_nonneg (by omega), w64_id (by omega) (by omega)]
      have et2 : w64 ((pk (x.2.1.getD i zT) k).2.tdiv 16) = (pk (x.2.1.getD i zT) k).2 / 16 := by rw [Int.tdiv_eq_ediv_of_nonneg (by omega), w64_id (by omega) (by omega)]
      simp only [et, et2] at q
      rw [if_neg (by omega), if_neg (by omega), if_neg (by omega), if_neg (by omega)] at q
      split at q <;> split at q <;> cases q
    · cases q
      have : k = 3 := by omega
      subst this
      have ht : (tp (x.2.1.getD i zT)).take 3 = tp (x.2.1.getD i zT) := rfl
      rw [ht] at nf nl
      exact ⟨f, l, rfl, by omega, by omega, by rw [pts_succ _ _ hi]; exact nf, by rw [pts_succ _ _ hi]; exact nl⟩
theorem in_four (i : Nat) (hi : i < x.2.1.length) (f l : Int) :
    Term (l16inside_l4_step x) (l16inside_l4_pre x) (f, (l, ((i : Int), 0))) ∧ run (l16inside_l4_step x) (f, (l, ((i : Int), 0))) = .inr (f, (l, (i : Int))) := by
  have hlen := hI.len
  have hsame := hI.same
  have hF := (fapart_law x.2.1 (by omega)).2.1 hI.free
  refine loop_inv (step := l16inside_l4_step x) (pre := l16inside_l4_pre x) (fun s => ∃ k : Nat, s = (f, (l, ((i : Int), (k : Int)))) ∧ k ≤ i) (fun s => i - s.2.2.2.toNat) (fun r => r = .inr (f, (l, (i : Int)))) (fun s hs => ?_) _ ⟨0, rfl, Nat.zero_le _⟩
  obtain ⟨k, rfl, hk⟩ := hs
  unfold l16inside_l4_step l16inside_l4_pre
  dsimp only [letV]
  simp only [Int.toNat_natCast]
  refine ⟨fun q => ⟨by omega, by omega, by omega, by omega, by omega, by omega, moverlap_tm _⟩, fun s' q => ?_, fun r q => ?_⟩
  · split at q
    · rename_i hlt
      obtain ⟨g1, g2⟩ := (free_iff _ _).1 (hF i k hi (by omega))
      simp only [g1, g2] at q
      rw [if_neg (by decide), if_neg (by decide), cnt (n := x.2.1.length) (by omega) (by omega)] at q
      cases q
      exact ⟨⟨k + 1, rfl, by omega⟩, by simp only [Int.toNat_natCast]; omega⟩
    · cases q
  · split at q
    · rename_i hlt
      obtain ⟨g1, g2⟩ := (free_iff _ _).1 (hF i k hi (by omega))
      simp only [g1, g2] at q
      rw [if_neg (by decide), if_neg (by decide)] at q
      cases q
    · cases q; rfl
def AllOut (x : Ptc) (r : Unit ⊕ (Int × Int)) : Prop := ∃ f l : Int, r = .inr (f, l) ∧ 0 ≤ f ∧ 0 ≤ l ∧ Sn f (pts x.2.1) (fun p => p.1 = 0) ∧ Sn l (pts x.2.1) (fun p => p.1 / 16 = x.2.2.1 - 1)
theorem in_all : Term (l16inside_l0_step x) (l16inside_l0_pre x) (0, (0, 0)) ∧ AllOut x (run (l16inside_l0_step x) (0, (0, 0))) := by
  have hlen := hI.len
  have hsame := hI.same
  refine loop_inv (step := l16inside_l0_step x) (pre := l16inside_l0_pre x) (fun s => ∃ (f l : Int) (i : Nat), s = (f, (l, (i : Int))) ∧ i ≤ x.2.1.length ∧ (0 ≤ f ∧ f ≤ 3 * i) ∧ (0 ≤ l ∧ l ≤ 3 * i) ∧ Sn f (pts (x.2.1.take i)) (fun p => p.1 = 0) ∧ Sn l (pts (x.2.1.take i)) (fun p => p.1 / 16 = x.2.2.1 - 1))
    (fun s => x.2.1.length - s.2.2.toNat) (AllOut x) (fun s hs => ?_) _ ⟨0, 0, 0, rfl, Nat.zero_le _, by omega, by omega, Sn.nil, Sn.nil⟩
  obtain ⟨f, l, i, rfl, hi, hf, hl, nf, nl⟩ := hs
  unfold l16inside_l0_step l16inside_l0_pre
  dsimp only [letV, letP]
  rcases Nat.lt_or_ge i x.2.1.length with hlt | hge
  · obtain ⟨t1, f', l', e1, g1, g2, g3, g4⟩ := in_two x hI i hlt f l hf hl nf nl
    obtain ⟨t2, e2⟩ := in_four x hI i hlt f' l'
    rw [e1]
    dsimp only [Sum.elim_inr, cS]
    rw [e2]
    dsimp only [Sum.elim_inr]
    rw [if_pos (by omega)]
    refine ⟨fun _ => ⟨t1, t2⟩, fun s' q => ?_, fun r q => (by cases q)⟩
    cases q
    rw [cnt hlt (by omega)]
    exact ⟨⟨f', l', i + 1, rfl, hlt, by omega, by omega, g3, g4⟩, by simp only [Int.toNat_natCast]; omega⟩
  · have : i = x.2.1.length := by omega
    subst this
    rw [if_neg (by omega)]
    refine ⟨fun q => absurd q (by omega), fun s' q => (by cases q), fun r q => ?_⟩
    cases q
    rw [List.take_length] at nf nl
    exact ⟨f, l, rfl, hf.1, hl.1, nf, nl⟩
end
theorem inside_law (x : Ptc) : l16inside_pre x ∧ l16inside x = true := by
  unfold l16inside_pre l16inside
  dsimp only [letP, letV]
  by_cases hb : r16big x = true
  · rw [if_pos hb]; exact ⟨fun q => absurd hb q, rfl⟩
  rw [if_neg hb]
  by_cases hI : IsPatch x
  · have hf := (fis_law x).2.2 hI
    have h0 : x.2.1 ≠ [] := fun e => by
      have := hI.ok
      rcases (fbox_law x.2.1 (by rw [e]; simp)).2 with ⟨_, g⟩ | ⟨⟨p, hp, _⟩, _⟩ | ⟨g, _⟩
      · rw [g] at this; cases this
      · rw [e] at hp; simp [pts] at hp
      · exact g e
    obtain ⟨h, hB, hS, hw, hh⟩ := patch_box x hI h0
    obtain ⟨t, f, l, e, f0, l0, nf, nl⟩ := in_all x hI
    rw [hf, e]
    refine ⟨fun _ => ⟨(fis_law x).1, fun q => absurd q (by decide), fun _ => ⟨t, (laid_law false).1⟩⟩, ?_⟩
    rw [if_neg (by decide)]
    dsimp only [Sum.elim_inr]
    have hf1 : f > 0 := Classical.byContradiction fun q => by
      obtain ⟨p, hp, e⟩ := hB.l1
      exact nf (by omega) p hp e
    have hl1 : l > 0 := Classical.byContradiction fun q => by
      obtain ⟨p, hp, e⟩ := hB.h1
      exact nl (by omega) p hp (by show p.1 / 16 = x.2.2.1 - 1; rw [e, hw]; omega)
    rw [(laid_law false).2, if_pos rfl, if_pos hf1, decide_eq_true hl1]
  · have hf : fis x = false := by rw [Bool.eq_false_iff]; exact fun q => hI ((fis_law x).2.1 q)
    have hm := fmove_law x (0, 0)
    rw [hf]
    refine ⟨fun _ => ⟨(fis_law x).1, fun _ => ⟨hm.1, (laid_law false).1⟩, fun q => absurd rfl q⟩, ?_⟩
    rcases hm.2 with ⟨_, e⟩ | ⟨h, _⟩ | ⟨h, _⟩
    · rw [e, (laid_law false).2]; rfl
    · exact absurd h hI
    · exact absurd h hI
end Go.Proofs.Ytpbbnoggkbfkoaa
