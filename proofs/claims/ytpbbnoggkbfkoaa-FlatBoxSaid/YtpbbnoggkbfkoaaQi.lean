/- FlatBox's function answers true, whatever its input. -/
import Derived.Test.YtpbbnoggkbfkoaaQf
import Derived.Test.YtpbbnoggkbfkoaaFgc
namespace Go.Proofs.Ytpbbnoggkbfkoaa
open Go Go.Ev Go.Proofs
abbrev BoxX : Type := List T2 × (Ptc × P2)
theorem six0 (t : T2) {k : Nat} (h : k < 3) : List.getD [t.1.1, t.1.2, t.2.1.1, t.2.1.2, t.2.2.1, t.2.2.2] (0 + k * 2 + 0) 0 = (pk t k).1 := (six t h).1
section
variable (x : BoxX)
def CornOut (x : BoxX) (lo hi : P2) (i : Nat) (r : Unit ⊕ (Int × (Int × (Int × (Int × (Int × (Int × Int))))))) : Prop :=
  ∃ n : Int, r = .inr (lo.1, (lo.2, (hi.1, (hi.2, (0, (n, (i : Int))))))) ∧ (0 ≤ n ∧ n ≤ 3 * i + 3) ∧ Sn n (pts (x.1.take (i + 1))) (fun p => p.1 = lo.1)
theorem corn (lo hi : P2) (hB : IsBox (pts x.1) lo hi) (hl : x.1.length ≤ 30) (i : Nat) (hi' : i < x.1.length) (n : Int) (hn : 0 ≤ n ∧ n ≤ 3 * i) (nn : Sn n (pts (x.1.take i)) fun p => p.1 = lo.1) :
    Term (l16box_l2_step x) (l16box_l2_pre x) (lo.1, (lo.2, (hi.1, (hi.2, (0, (n, ((i : Int), 0))))))) ∧ CornOut x lo hi i (run (l16box_l2_step x) (lo.1, (lo.2, (hi.1, (hi.2, (0, (n, ((i : Int), 0)))))))) := by
  refine loop_inv (step := l16box_l2_step x) (pre := l16box_l2_pre x) (fun s => ∃ (n : Int) (k : Nat), s = (lo.1, (lo.2, (hi.1, (hi.2, (0, (n, ((i : Int), (k : Int)))))))) ∧ k ≤ 3 ∧ (0 ≤ n ∧ n ≤ 3 * i + k) ∧ Sn n (pts (x.1.take i) ++ (tp (x.1.getD i zT)).take k) (fun p => p.1 = lo.1))
    (fun s => 3 - s.2.2.2.2.2.2.2.toNat) (CornOut x lo hi i) (fun s hs => ?_) _ ⟨n, 0, rfl, by omega, by omega, by simpa using nn⟩
  obtain ⟨n, k, rfl, hk, hn, nn⟩ := hs
  unfold l16box_l2_step l16box_l2_pre
  dsimp only
  simp only [Int.toNat_natCast]
  refine ⟨fun q => ⟨by omega, by omega, by omega, by omega, by omega, by omega⟩, fun s' q => ?_, fun r q => ?_⟩
  · split at q
    · rename_i hlt
      have hlt : k < 3 := by omega
      obtain ⟨e1, e2⟩ := six (x.1.getD i zT) hlt
      simp only [e1, e2] at q
      have hm : pk (x.1.getD i zT) k ∈ pts x.1 := mem_pts hi' (pk_mem _ hlt)
      have b1 := hB.low _ hm
      have b2 := hB.high _ hm
      have en : w64 (n + 1) = n + 1 := w64_id (by omega) (by omega)
      have ek : w64 ((k : Int) + 1) = ((k + 1 : Nat) : Int) := cnt (n := 3) hlt (by omega)
      simp only [en, ek] at q
      rw [if_neg (by omega), if_neg (by omega), if_neg (by omega), if_neg (by omega)] at q
      split at q
      · cases q
        exact ⟨⟨_, k + 1, rfl, hlt, by omega, by rw [tp_succ _ hlt, ← List.append_assoc]; exact Sn.yes hn.1⟩, by simp only [Int.toNat_natCast]; omega⟩
      · rename_i c1
        cases q
        exact ⟨⟨_, k + 1, rfl, hlt, by omega, by rw [tp_succ _ hlt, ← List.append_assoc]; exact nn.no (by simpa using c1)⟩, by simp only [Int.toNat_natCast]; omega⟩
    · cases q
  · split at q
    · rename_i hlt
      have hlt : k < 3 := by omega
      obtain ⟨e1, e2⟩ := six (x.1.getD i zT) hlt
      simp only [e1, e2] at q
      have hm : pk (x.1.getD i zT) k ∈ pts x.1 := mem_pts hi' (pk_mem _ hlt)
      have b1 := hB.low _ hm
      have b2 := hB.high _ hm
      rw [if_neg (by omega), if_neg (by omega), if_neg (by omega), if_neg (by omega)] at q
      split at q <;> cases q
    · cases q
      have : k = 3 := by omega
      subst this
      have ht : (tp (x.1.getD i zT)).take 3 = tp (x.1.getD i zT) := rfl
      rw [ht] at nn
      exact ⟨n, rfl, by omega, by rw [pts_succ _ _ hi']; exact nn⟩
def BoxAll (x : BoxX) (e : Int) (r : Unit ⊕ (Int × Int)) : Prop := ∃ n : Int, r = .inr (e, n) ∧ (e = 0 → n ≠ 0)
theorem box_all (hl : x.1.length ≤ 30) : Term (l16box_l0_step x) (l16box_l0_pre x) ((fbox x.1).1.1, ((fbox x.1).1.2, ((fbox x.1).2.1.1, ((fbox x.1).2.1.2, ((fbox x.1).2.2, (0, 0)))))) ∧ BoxAll x (fbox x.1).2.2 (run (l16box_l0_step x) ((fbox x.1).1.1, ((fbox x.1).1.2, ((fbox x.1).2.1.1, ((fbox x.1).2.1.2, ((fbox x.1).2.2, (0, 0))))))) := by
  have bad : ∀ (e : Int), e ≠ 0 → Term (l16box_l0_step x) (l16box_l0_pre x) (0, (0, (0, (0, (e, (0, 0)))))) ∧ BoxAll x e (run (l16box_l0_step x) (0, (0, (0, (0, (e, (0, 0))))))) := fun e he => by
    refine loop_inv (step := l16box_l0_step x) (pre := l16box_l0_pre x) (fun s => s = (0, (0, (0, (0, (e, (0, 0))))))) (fun _ => 0) (BoxAll x e) (fun s hs => ?_) _ rfl
    subst hs
    have hn : ¬ ((e == 0) = true) := by simpa using he
    unfold l16box_l0_step l16box_l0_pre
    dsimp only
    refine ⟨fun _ q => absurd q hn, fun s' q => ?_, fun r q => ?_⟩
    · split at q
      · cases q
      · cases q
    · split at q
      · cases q; exact ⟨0, rfl, fun q => absurd q he⟩
      · cases q; exact ⟨0, rfl, fun q => absurd q he⟩
  rcases (fbox_law x.1 (by omega)).2 with ⟨_, e⟩ | ⟨_, e⟩ | ⟨_, _, lo, hi, hB, e⟩
  · rw [e]; exact bad 1 (by decide)
  · rw [e]; exact bad 5 (by decide)
  · rw [e]
    dsimp only
    refine loop_inv (step := l16box_l0_step x) (pre := l16box_l0_pre x) (fun s => ∃ (n : Int) (i : Nat), s = (lo.1, (lo.2, (hi.1, (hi.2, (0, (n, (i : Int))))))) ∧ i ≤ x.1.length ∧ (0 ≤ n ∧ n ≤ 3 * i) ∧ Sn n (pts (x.1.take i)) (fun p => p.1 = lo.1))
      (fun s => x.1.length - s.2.2.2.2.2.2.toNat) (BoxAll x 0) (fun s hs => ?_) _ ⟨0, 0, rfl, Nat.zero_le _, by omega, Sn.nil⟩
    obtain ⟨n, i, rfl, hi', hn, nn⟩ := hs
    unfold l16box_l0_step l16box_l0_pre
    dsimp only [letV, letP]
    rcases Nat.lt_or_ge i x.1.length with hlt | hge
    · obtain ⟨t1, n', e1, g1, g2⟩ := corn x lo hi hB hl i hlt n hn nn
      rw [e1, if_pos (by omega), if_pos (by decide)]
      dsimp only [Sum.elim_inr]
      refine ⟨fun _ _ => t1, fun s' q => ?_, fun r q => (by cases q)⟩
      cases q
      rw [cnt hlt (by omega)]
      exact ⟨⟨n', i + 1, rfl, hlt, by omega, g2⟩, by simp only [Int.toNat_natCast]; omega⟩
    · have : i = x.1.length := by omega
      subst this
      rw [if_neg (by omega)]
      refine ⟨fun q => absurd q (by omega), fun s' q => (by cases q), fun r q => ?_⟩
      cases q
      rw [List.take_length] at nn
      refine ⟨n, rfl, fun _ h0 => ?_⟩
      obtain ⟨p, hp, e⟩ := hB.l1
      exact nn h0 p hp e
theorem movec_law {p b : P2} (hp : Sm p) (hb : 0 ≤ b.1 ∧ b.1 ≤ 65536 ∧ 0 ≤ b.2 ∧ b.2 ≤ 65536) : movec (p, b) = (p.1 + b.1, p.2 + b.2) := by
  unfold movec
  dsimp only
  rw [w64_id (by omega) (by omega), w64_id (by omega) (by omega)]
theorem pk_map (f : P2 → P2) (t : T2) {k : Nat} (h : k < 3) : pk (tmap f t) k = f (pk t k) := by
  have : k = 0 ∨ k = 1 ∨ k = 2 := by omega
  rcases this with rfl | rfl | rfl <;> rfl
theorem move_six (hI : IsPatch x.2.1) (hb : 0 ≤ x.2.2.1 ∧ x.2.2.1 ≤ 65536 ∧ 0 ≤ x.2.2.2 ∧ x.2.2.2 ≤ 65536) (i : Nat) (hi : i < x.2.1.2.1.length) :
    Term (l16box_l6_step x) (l16box_l6_pre x) (x.2.1.2.1.map (tmap fun p => movec (p, x.2.2)), ((i : Int), 0)) ∧ run (l16box_l6_step x) (x.2.1.2.1.map (tmap fun p => movec (p, x.2.2)), ((i : Int), 0)) = .inr (x.2.1.2.1.map (tmap fun p => movec (p, x.2.2)), (i : Int)) := by
  have hlen := hI.len
  have hsame := hI.same
  have hul : (x.2.1.2.1.map (tmap fun p => movec (p, x.2.2))).length = x.2.1.2.1.length := by simp
  have hge : (x.2.1.2.1.map (tmap fun p => movec (p, x.2.2))).getD i zT = tmap (fun p => movec (p, x.2.2)) (x.2.1.2.1.getD i zT) := by
    simp [List.getD_eq_getElem?_getD, List.getElem?_eq_getElem hi]
  have hsm : ∀ k, k < 3 → Sm (pk (x.2.1.2.1.getD i zT) k) := fun k hk => by
    have hr := hI.right (x.2.1.2.1.getD i zT) (by rw [List.getD_eq_getElem?_getD, List.getElem?_eq_getElem hi]; exact List.getElem_mem _)
    have : k = 0 ∨ k = 1 ∨ k = 2 := by omega
    rcases this with rfl | rfl | rfl
    · exact hr.1.1
    · exact hr.1.2.1
    · exact hr.1.2.2
  generalize hu : x.2.1.2.1.map (tmap fun p => movec (p, x.2.2)) = u at *
  refine loop_inv (step := l16box_l6_step x) (pre := l16box_l6_pre x) (fun s => ∃ k : Nat, s = (u, ((i : Int), (k : Int))) ∧ k ≤ 3) (fun s => 3 - s.2.2.toNat) (fun r => r = .inr (u, (i : Int))) (fun s hs => ?_) _ ⟨0, rfl, by omega⟩
  obtain ⟨k, rfl, hk⟩ := hs
  unfold l16box_l6_step l16box_l6_pre
  dsimp only
  simp only [Int.toNat_natCast]
  refine ⟨fun q => ?_, ?_⟩
  · have hlt : k < 3 := by omega
    exact ⟨by omega, by omega, by omega, by omega, by omega, by omega, by omega, by omega, by omega, by omega, by omega, by omega, by omega, by omega, fun _ => ⟨by omega, by omega, by omega, by omega, by omega, by omega, by omega, by omega, by omega, by omega, by omega, by omega, by omega, by omega⟩⟩
  · by_cases hlt : k < 3
    · have e1 := six0 (u.getD i zT) hlt
      have e2 := (six (u.getD i zT) hlt).2
      have e3 := six0 (x.2.1.2.1.getD i zT) hlt
      have e4 := (six (x.2.1.2.1.getD i zT) hlt).2
      have hs := hsm k hlt
      simp only [e1, e2, e3, e4]
      simp only [hge, pk_map _ _ hlt, movec_law hs hb]
      rw [if_pos (by omega)]
      rw [w64_id (n := (pk (x.2.1.2.1.getD i zT) k).1 + x.2.2.1 - x.2.2.1) (by omega) (by omega), w64_id (n := (pk (x.2.1.2.1.getD i zT) k).2 + x.2.2.2 - x.2.2.2) (by omega) (by omega)]
      rw [if_neg (by simp only [bne_iff_ne, ne_eq, Decidable.not_not]; omega), if_neg (by simp only [bne_iff_ne, ne_eq, Decidable.not_not]; omega), cnt (n := 3) hlt (by omega)]
      refine ⟨fun s' q => ?_, fun r q => (by cases q)⟩
      cases q
      exact ⟨⟨k + 1, rfl, hlt⟩, by simp only [Int.toNat_natCast]; omega⟩
    · rw [if_neg (by omega)]
      exact ⟨fun s' q => (by cases q), fun r q => by cases q; rfl⟩
theorem move_four (hI : IsPatch x.2.1) (hb : 0 ≤ x.2.2.1 ∧ x.2.2.1 ≤ 65536 ∧ 0 ≤ x.2.2.2 ∧ x.2.2.2 ≤ 65536) :
    Term (l16box_l4_step x) (l16box_l4_pre x) (x.2.1.2.1.map (tmap fun p => movec (p, x.2.2)), 0) ∧ run (l16box_l4_step x) (x.2.1.2.1.map (tmap fun p => movec (p, x.2.2)), 0) = .inr (x.2.1.2.1.map (tmap fun p => movec (p, x.2.2))) := by
  have hlen := hI.len
  have hsame := hI.same
  have hul : (x.2.1.2.1.map (tmap fun p => movec (p, x.2.2))).length = x.2.1.2.1.length := by simp
  refine loop_inv (step := l16box_l4_step x) (pre := l16box_l4_pre x) (fun s => ∃ i : Nat, s = (x.2.1.2.1.map (tmap fun p => movec (p, x.2.2)), (i : Int)) ∧ i ≤ x.2.1.2.1.length) (fun s => x.2.1.2.1.length - s.2.toNat) (fun r => r = .inr (x.2.1.2.1.map (tmap fun p => movec (p, x.2.2)))) (fun s hs => ?_) _ ⟨0, rfl, Nat.zero_le _⟩
  obtain ⟨i, rfl, hi⟩ := hs
  unfold l16box_l4_step l16box_l4_pre
  dsimp only [letV, letP]
  rw [hul]
  by_cases hlt : i < x.2.1.2.1.length
  · obtain ⟨t, e⟩ := move_six x hI hb i hlt
    rw [if_pos (by omega), e]
    refine ⟨fun _ => t, fun s' q => ?_, fun r q => (by cases q)⟩
    cases q
    rw [cnt hlt (by omega)]
    exact ⟨⟨i + 1, rfl, hlt⟩, by simp only [Int.toNat_natCast]; omega⟩
  · rw [if_neg (by omega)]
    exact ⟨fun q => absurd q (by omega), fun s' q => (by cases q), fun r q => by cases q; rfl⟩
end
theorem box_law (x : BoxX) : l16box_pre x ∧ l16box x = true := by
  unfold l16box_pre l16box
  dsimp only [letP, letV]
  by_cases hl : ((x.1.length : Nat) : Int) > 30
  · exact ⟨fun q => absurd hl q, by rw [if_pos hl]⟩
  rw [if_neg hl]
  by_cases hb : r16big x.2.1 = true
  · exact ⟨fun _ q => absurd hb q, by rw [if_pos hb]⟩
  rw [if_neg hb]
  obtain ⟨tB, n, eB, hn⟩ := box_all x (by omega)
  have hbx := (fbox_law x.1 (by omega)).1
  have hm := fmove_law x.2.1 x.2.2
  rw [eB]
  dsimp only [Sum.elim_inr, cS]
  have hd := laid_law false
  rcases hm.2 with ⟨_, e⟩ | ⟨_, _, e⟩ | ⟨hI, hb', e⟩
  · rw [show x.2 = (x.2.1, x.2.2) from rfl, e, hd.2]
    refine ⟨fun _ _ => ⟨hbx, tB, fun _ _ => ⟨hm.1, fun _ => hd.1, fun q => absurd (by decide) q⟩, fun _ => ⟨hm.1, fun _ => hd.1, fun q => absurd (by decide) q⟩⟩, ?_⟩
    split
    · rename_i h0
      rw [if_neg (by simpa using hn (by simpa using h0))]; rfl
    · rfl
  · rw [show x.2 = (x.2.1, x.2.2) from rfl, e, hd.2]
    refine ⟨fun _ _ => ⟨hbx, tB, fun _ _ => ⟨hm.1, fun _ => hd.1, fun q => absurd (by decide) q⟩, fun _ => ⟨hm.1, fun _ => hd.1, fun q => absurd (by decide) q⟩⟩, ?_⟩
    split
    · rename_i h0
      rw [if_neg (by simpa using hn (by simpa using h0))]; rfl
    · rfl
  · obtain ⟨t4, e4⟩ := move_four x hI hb'
    rw [show x.2 = (x.2.1, x.2.2) from rfl] at *
    rw [e, hd.2]
    dsimp only
    rw [e4]
    dsimp only [Sum.elim_inr, cS]
    refine ⟨fun _ _ => ⟨hbx, tB, fun _ _ => ⟨hm.1, fun _ => hd.1, fun _ => ⟨t4, hd.1⟩⟩, fun _ => ⟨hm.1, fun _ => hd.1, fun _ => ⟨t4, hd.1⟩⟩⟩, ?_⟩
    split
    · rename_i h0
      rw [if_neg (by simpa using hn (by simpa using h0)), if_neg (by decide), if_pos rfl]
      simp
    · rw [if_neg (by decide), if_pos rfl]
      simp
end Go.Proofs.Ytpbbnoggkbfkoaa
