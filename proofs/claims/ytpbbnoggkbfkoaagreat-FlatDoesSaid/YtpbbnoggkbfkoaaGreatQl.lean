/- Plain laws: the references of layers 8, 15 and 16 say what the program says (1). -/
import Derived.Test.YtpbbnoggkbfkoaaGreatQk
import Derived.Test.YtpbbnoggkbfkoaaGreatFi
namespace Go.Proofs.YtpbbnoggkbfkoaaGreat
open Go Go.Ev Go.Proofs
theorem r8within_law (n a b : Int) : r8within (n, (a, b)) = decide (a ≤ n ∧ n ≤ b) := by
  unfold r8within; exact ite_dec rfl
theorem within_no (i : Int) {n : Nat} (h : n ≤ 2000) : r8within (i, (0, w64 ((n : Int) - 1))) = among (i, ((n : Int), false)) := by
  rw [r8within_law, among_law, w64_id (by omega) (by omega), Bool.eq_iff_iff]
  simp only [Bool.false_and, Bool.or_false, decide_eq_true_eq]
  omega
theorem within_yes (i : Int) {n : Nat} (h : n ≤ 2000) : r8within (i, (-1, w64 ((n : Int) - 1))) = among (i, ((n : Int), true)) := by
  rw [r8within_law, among_law, w64_id (by omega) (by omega), Bool.eq_iff_iff]
  simp only [Bool.true_and, Bool.or_eq_true, decide_eq_true_eq, beq_iff_eq]
  omega
theorem r8is_l (m : Msh) (h1 : m.1.length ≤ 2000) (h2 : m.2.1.length ≤ 2000) (h3 : m.2.2.1.length ≤ 2000) (h : m.2.2.2.length ≤ 500) : Term (r8is_l0_step m) (r8is_l0_pre m) 0 ∧ Sum.elim (fun _ => false) (fun _ => true) (run (r8is_l0_step m) 0) = m.2.2.2.all (triB m) := by
  rw [← any_not]
  refine all_loop m.2.2.2 (by omega) (fun t => !triB m t) _ _ (fun i hi => ?_) (fun i t ht => ?_) ?_
  · unfold r8is_l0_pre
    intro h
    simp only [Int.toNat_natCast]
    omega
  · have hlt := lt_of_get ht
    unfold r8is_l0_step
    rw [if_pos (by omega), Int.toNat_natCast, getD_of ht]
    dsimp only [letV]
    simp only [within_no _ h1, within_yes _ h2, within_yes _ h3]
    unfold triB
    exact ite_and (ite_and (ite_and (ite_and (ite_and (ite_and (ite_and (ite_and (ite_and (ite_and (ite_and (ite_and (ite_and (ite_and rfl)))))))))))))
  · unfold r8is_l0_step
    rw [if_neg (by omega)]
theorem r8is_law (m : Msh) : r8is_pre m ∧ r8is m = meshB m := by
  unfold r8is_pre r8is meshB
  dsimp only [letP, letV]
  by_cases hf : fewB m = true
  · obtain ⟨h1, h2, h3, h4⟩ := few_len hf
    rw [hf, if_neg (by omega), if_neg (by omega), if_neg (by omega), if_neg (by omega), (r4all3_law m.1 (by omega)).2, (r4all2_law m.2.1 (by omega)).2, (r4all3_law m.2.2.1 (by omega)).2, (r8is_l m h1 h2 h3 h4).2]
    refine ⟨fun _ _ _ _ => ⟨(r4all3_law m.1 (by omega)).1, fun _ => ⟨(r4all2_law m.2.1 (by omega)).1, fun _ => ⟨(r4all3_law m.2.2.1 (by omega)).1, fun _ => (r8is_l m h1 h2 h3 h4).1⟩⟩⟩, ?_⟩
    generalize decide (∀ p ∈ m.1, Is30 p) = b1
    generalize decide (∀ p ∈ m.2.1, Is20 p) = b2
    generalize decide (∀ p ∈ m.2.2.1, Is30 p) = b3
    cases b1 <;> cases b2 <;> cases b3 <;> simp
  · have hn : ¬ (m.1.length ≤ 2000 ∧ m.2.1.length ≤ 2000 ∧ m.2.2.1.length ≤ 2000 ∧ m.2.2.2.length ≤ 500) := fun q => hf (by unfold fewB; exact decide_eq_true q)
    have hb : fewB m = false := by simpa using hf
    rw [hb]
    refine ⟨fun _ _ _ _ => absurd ?_ hn, ?_⟩
    · omega
    · split
      · rfl
      · split
        · rfl
        · split
          · rfl
          · split
            · rfl
            · exact absurd (by omega) hn
theorem r15within_law (n : Int) : r15within n = decide (-4096 ≤ n ∧ n ≤ 4096) := by
  unfold r15within; exact ite_dec rfl
theorem r15tame_law (m : Msh) (hl : m.1.length < 4611686018427387904) : r15tame_pre m ∧ r15tame m = tameB m := by
  have hh := all_loop m.1 hl (fun p => !decide (Nr p)) (r15tame_l0_step m) (r15tame_l0_pre m) (fun i hi => by
      unfold r15tame_l0_pre
      dsimp only [letP]
      intro h
      simp only [Int.toNat_natCast]
      exact ⟨⟨by omega, h⟩, by omega, by omega, by omega, fun _ => ⟨⟨by omega, h⟩, by omega, by omega, by omega, fun _ => ⟨⟨by omega, h⟩, by omega, by omega, by omega⟩⟩⟩) (fun i p hp => by
      have hlt := lt_of_get hp
      unfold r15tame_l0_step
      rw [if_pos (by omega), Int.toNat_natCast, getD_of hp]
      dsimp only [letV]
      rw [r15within_law, r15within_law, r15within_law, three_if]
      by_cases h : Nr p
      · rw [if_pos h, decide_eq_true h, if_neg (by decide)]
      · rw [if_neg h, decide_eq_false h, if_pos (by decide)]) (by
      unfold r15tame_l0_step
      rw [if_neg (by omega)])
  rw [notAny (P := Nr) (fun _ => rfl)] at hh
  unfold r15tame_pre r15tame tameB
  dsimp only [letP, letV]
  rw [(r8is_law m).2]
  obtain ⟨hT, hR⟩ := hh
  cases hr : run (r15tame_l0_step m) 0 with
  | inl a =>
    rw [hr] at hR
    exact ⟨⟨hT, trivial⟩, by rw [← hR]; simp⟩
  | inr b =>
    rw [hr] at hR
    exact ⟨⟨hT, (r8is_law m).1⟩, by rw [← hR]; simp⟩
theorem r15place_law (m : Msh) (i : Int) : r15place (m, i) = decide (Has m i) := bhas_law m i
theorem r15points_law (m : Msh) (i : Int) : r15points (m, i) = Pts m i := rfl
theorem r15points_tm {m : Msh} {i : Int} (hm : tameB m = true) (h : Has m i) : r15points_pre (m, i) := by
  obtain ⟨h1, h2, h3⟩ := triB_v (tame_tri hm h)
  unfold Tr at h1 h2 h3
  unfold r15points_pre
  dsimp only at h1 h2 h3 ⊢
  generalize List.getD m.2.2.2 i.toNat ((0, (0, 0)), ((0, (0, 0)), (0, (0, 0)))) = t at h1 h2 h3 ⊢
  omega
theorem r15facing_law (m : Msh) (i : Int) (hl : m.1.length < 4611686018427387904) : r15facing_pre (m, i) ∧ r15facing (m, i) = facing (m, i) := by
  have ht := r15tame_law m hl
  unfold r15facing_pre r15facing facing bway
  dsimp only [letP, letV]
  rw [ht.2, (tame_law m).2, r15place_law, bhas_law, r15points_law, bpoints_law]
  by_cases hm : tameB m = true
  · by_cases h : Has m i
    · rw [hm, decide_eq_true h, show Pts m i = ((Pts m i).1, ((Pts m i).2.1, (Pts m i).2.2)) from rfl, (r9facing_law _ _ _).2]
      exact ⟨⟨ht.1, fun _ _ => ⟨r15points_tm hm h, (r9facing_law _ _ _).1⟩⟩, rfl⟩
    · rw [hm, decide_eq_false h]
      exact ⟨⟨ht.1, fun _ q => absurd rfl q⟩, rfl⟩
  · have hf : tameB m = false := by simpa using hm
    rw [hf]
    exact ⟨⟨ht.1, fun q => absurd rfl q⟩, rfl⟩
theorem r15shadow_law (m : Msh) (i ax : Int) (hl : m.1.length < 4611686018427387904) : r15shadow_pre (m, (i, ax)) ∧ r15shadow (m, (i, ax)) = shadow (m, (i, ax)) := by
  have ht := r15tame_law m hl
  rw [(shadow_law m i ax).2]
  unfold r15shadow_pre r15shadow
  dsimp only [letP, letV]
  rw [ht.2, r15place_law, r15points_law]
  by_cases hm : tameB m = true
  · rw [hm]
    by_cases h : Has m i
    · refine ⟨⟨ht.1, fun _ _ _ _ => r15points_tm hm h⟩, ?_⟩
      rw [decide_eq_true h, if_neg (by decide), if_neg (by decide)]
      by_cases ha : 0 ≤ ax ∧ ax < 3
      · rw [if_neg (by omega), if_neg (by omega), if_pos (show true = true ∧ Has m i ∧ 0 ≤ ax ∧ ax < 3 from ⟨rfl, h, ha⟩), r4drop_law, r4drop_law, r4drop_law, if_pos ha, if_pos ha, if_pos ha]
        rfl
      · rw [if_neg (c := true = true ∧ _) (fun q => ha q.2.2)]
        by_cases h1 : ax < 0
        · rw [if_pos h1]
        · rw [if_neg h1, if_pos (by omega)]
    · refine ⟨⟨ht.1, fun _ q => absurd (by rw [decide_eq_false h]; rfl) q⟩, ?_⟩
      rw [decide_eq_false h, if_neg (by decide), if_pos (by decide), if_neg (fun q => h q.2.1)]
  · have hf : tameB m = false := by simpa using hm
    rw [hf]
    exact ⟨⟨ht.1, fun q => absurd rfl q⟩, rfl⟩
theorem r16size_law (n : Int) : r16size n = fsize n := rfl
def RBoxOut (l : List T2) (r : Unit ⊕ (Int × (Int × (Int × Int)))) : Prop := (r = .inl () ∧ ∃ p ∈ pts l, ¬ Sm p) ∨ (∃ a b c d, r = .inr (a, (b, (c, d))) ∧ (∀ p ∈ pts l, Sm p) ∧ IsBox (pts l) (a, b) (c, d))
theorem r16box_loop (l : List T2) (hl : l.length < 4611686018427387904) (h0 : l ≠ []) :
    Term (r16box_l0_step l) (r16box_l0_pre l) ((l.getD 0 zT).1.1, ((l.getD 0 zT).1.2, ((l.getD 0 zT).1.1, ((l.getD 0 zT).1.2, (0 : Int))))) ∧
    RBoxOut l (run (r16box_l0_step l) ((l.getD 0 zT).1.1, ((l.getD 0 zT).1.2, ((l.getD 0 zT).1.1, ((l.getD 0 zT).1.2, (0 : Int)))))) := by
  have hlen : 0 < l.length := List.length_pos_iff.2 h0
  have hm0 : (l.getD 0 zT).1 ∈ pts l := mem_pts hlen (by simp [tp])
  refine loop_inv (step := r16box_l0_step l) (pre := r16box_l0_pre l) (fun s => ∃ (a b c d : Int) (i : Nat), s = (a, (b, (c, (d, (i : Int))))) ∧ i ≤ l.length ∧ PBox l i a b c d)
    (fun s => l.length - s.2.2.2.2.toNat) (RBoxOut l) (fun s hs => ?_) _ ⟨_, _, _, _, 0, rfl, Nat.zero_le _, ⟨fun p hp => (by simp [pts] at hp), fun p hp => (by simp [pts] at hp), fun p hp => (by simp [pts] at hp), ⟨_, hm0, rfl⟩, ⟨_, hm0, rfl⟩, ⟨_, hm0, rfl⟩, ⟨_, hm0, rfl⟩⟩⟩
  obtain ⟨a, b, c, d, i, rfl, hi, hB⟩ := hs
  unfold r16box_l0_step r16box_l0_pre
  dsimp only [letV, letP]
  simp only [Int.toNat_natCast, r9small2_law]
  refine ⟨fun h => ⟨⟨by omega, h⟩, by omega, by omega, by omega, fun _ => ⟨⟨by omega, h⟩, by omega, by omega, by omega, fun _ => ⟨⟨by omega, h⟩, by omega, by omega, by omega⟩⟩⟩, fun s' h => ?_, fun r h => ?_⟩
  · split at h
    · rename_i hlt
      have hlt : i < l.length := by omega
      split at h
      · cases h
      · rename_i s1
        split at h
        · cases h
        · rename_i s2
          split at h
          · cases h
          · rename_i s3
            cases h
            rw [cnt hlt hl]
            exact ⟨⟨_, _, _, _, i + 1, rfl, hlt, hB.step hlt (yes_dec s1) (yes_dec s2) (yes_dec s3)⟩, by simp only [Int.toNat_natCast]; omega⟩
    · cases h
  · split at h
    · rename_i hlt
      have hlt : i < l.length := by omega
      split at h
      · rename_i s1
        cases h
        exact .inl ⟨rfl, _, mem_pts hlt (p := (l.getD i zT).1) (by simp [tp]), not_dec s1⟩
      · split at h
        · rename_i s2
          cases h
          exact .inl ⟨rfl, _, mem_pts hlt (p := (l.getD i zT).2.1) (by simp [tp]), not_dec s2⟩
        · split at h
          · rename_i s3
            cases h
            exact .inl ⟨rfl, _, mem_pts hlt (p := (l.getD i zT).2.2) (by simp [tp]), not_dec s3⟩
          · cases h
    · rename_i hlt
      cases h
      have : i = l.length := by omega
      subst this
      have e : l.take l.length = l := List.take_length
      exact .inr ⟨a, b, c, d, rfl, fun p hp => hB.sm p (by rw [e]; exact hp), fun p hp => hB.low p (by rw [e]; exact hp), fun p hp => hB.high p (by rw [e]; exact hp), hB.l1, hB.l2, hB.h1, hB.h2⟩
theorem r16box_law (l : List T2) (hl : l.length < 4611686018427387904) : r16box_pre l ∧ r16box l = fbox l := by
  have hf := (fbox_law l hl).2
  unfold r16box_pre r16box
  cases l with
  | nil => exact ⟨fun h => absurd rfl h, by rcases hf with ⟨_, e⟩ | ⟨⟨p, hp, _⟩, _⟩ | ⟨h, _⟩ <;> first | (rw [e]; rfl) | (simp [pts] at hp) | exact absurd rfl h⟩
  | cons x r =>
    have hlen : 0 < (x :: r).length := by simp
    have hne : ¬ ((((x :: r).length : Int) == (0 : Int)) = true) := by simp only [beq_iff_eq]; omega
    obtain ⟨h1, h2⟩ := r16box_loop (x :: r) hl (by simp)
    refine ⟨fun _ => ⟨by omega, hlen, hlen, hlen, by omega, hlen, hlen, hlen, h1⟩, ?_⟩
    rw [if_neg hne]
    dsimp only [letV]
    rcases h2 with ⟨e, p, hp, hn⟩ | ⟨a, b, c, d, e, hs, hB⟩
    · rw [e]
      rcases hf with ⟨h, _⟩ | ⟨_, e2⟩ | ⟨_, hs, _⟩
      · cases h
      · rw [e2]; rfl
      · exact absurd (hs p hp) hn
    · rw [e]
      rcases hf with ⟨h, _⟩ | ⟨⟨p, hp, hn⟩, _⟩ | ⟨_, _, lo, hi, hB2, e2⟩
      · cases h
      · exact absurd (hs p hp) hn
      · rw [e2]
        obtain ⟨rfl, rfl⟩ := hB.uniq hB2
        rfl
theorem rapart_in (l : List T2) (hl : l.length < 4611686018427387904) (i : Nat) (hi : i < l.length) :
    Term (r16apart_l2_step l) (r16apart_l2_pre l) ((i : Int), (0 : Int)) ∧ ApOut l i (l.getD i zT) (run (r16apart_l2_step l) ((i : Int), (0 : Int))) := by
  refine loop_inv (step := r16apart_l2_step l) (pre := r16apart_l2_pre l) (fun s => ∃ k : Nat, s = ((i : Int), (k : Int)) ∧ k ≤ i ∧ ∀ j, j < k → Free (l.getD i zT) (l.getD j zT) = true)
    (fun s => i - s.2.toNat) (ApOut l i (l.getD i zT)) (fun s hs => ?_) _ ⟨0, rfl, Nat.zero_le _, fun j h => absurd h (Nat.not_lt_zero _)⟩
  obtain ⟨k, rfl, hk, hf⟩ := hs
  unfold r16apart_l2_step r16apart_l2_pre
  dsimp only [letV]
  simp only [Int.toNat_natCast]
  have e := (r10overlap_law (l.getD i zT) (l.getD k zT)).2
  refine ⟨fun h => ⟨⟨by omega, by omega⟩, by omega, by omega, ⟨by omega, by omega⟩, by omega, by omega, (r10overlap_law _ _).1⟩, ?_⟩
  simp only [e]
  by_cases hlt : k < i
  · rw [if_pos (by omega)]
    by_cases hF : Free (l.getD i zT) (l.getD k zT) = true
    · obtain ⟨g1, g2⟩ := (free_iff _ _).1 hF
      simp only [g1, g2]
      rw [if_neg (by decide), if_neg (by decide), cnt (n := l.length) (by omega) hl]
      refine ⟨fun s' q => ?_, fun r q => (by cases q)⟩
      cases q
      refine ⟨⟨k + 1, rfl, hlt, fun j hj => ?_⟩, by simp only [Int.toNat_natCast]; omega⟩
      rcases Nat.lt_or_ge j k with h1 | h1
      · exact hf j h1
      · have : j = k := by omega
        subst this; exact hF
    · have hF' : Free (l.getD i zT) (l.getD k zT) = false := by simpa using hF
      have : ∀ {α : Type} (A B : α), (if (((moverlap (l.getD i zT, l.getD k zT)).2 != 0) = true) then A else if ((moverlap (l.getD i zT, l.getD k zT)).1 = true) then A else B) = A := fun A B => by
        by_cases h2 : (moverlap (l.getD i zT, l.getD k zT)).2 = 0
        · by_cases h1 : (moverlap (l.getD i zT, l.getD k zT)).1 = true
          · rw [if_neg (by simpa using h2), if_pos h1]
          · exact absurd ((free_iff _ _).2 ⟨by simpa using h1, h2⟩) hF
        · rw [if_pos (by simpa using h2)]
      rw [this]
      exact ⟨fun s' q => (by cases q), fun r q => by cases q; exact .inl ⟨rfl, k, hlt, hF'⟩⟩
  · rw [if_neg (by omega)]
    refine ⟨fun s' q => (by cases q), fun r q => ?_⟩
    cases q
    have : k = i := by omega
    subst this
    exact .inr ⟨rfl, hf⟩
theorem r16apart_law (l : List T2) (hl : l.length < 4611686018427387904) : r16apart_pre l ∧ r16apart l = fapart l := by
  have hF := (fapart_law l hl).2
  obtain ⟨h1, h2⟩ := loop_inv (step := r16apart_l0_step l) (pre := r16apart_l0_pre l) (fun s => ∃ i : Nat, s = i ∧ i ≤ l.length ∧ ∀ j k, j < i → k < j → Free (l.getD j zT) (l.getD k zT) = true) (fun s => l.length - s.toNat)
    (fun r => Sum.elim (fun _ => false) (fun _ => true) r = true ↔ ∀ i k, i < l.length → k < i → Free (l.getD i zT) (l.getD k zT) = true) (fun s ⟨i, e, hi, hf⟩ => by
      subst e
      unfold r16apart_l0_step r16apart_l0_pre
      dsimp only [letV]
      by_cases hlt : i < l.length
      · obtain ⟨t, o⟩ := rapart_in l hl i hlt
        rw [if_pos (by omega)]
        refine ⟨fun _ => t, ?_⟩
        rcases o with ⟨g1, k, hk, hb⟩ | ⟨g1, g2⟩
        · rw [g1]
          refine ⟨fun s' q => (by cases q), fun r q => ?_⟩
          cases q
          exact ⟨fun q => (by cases q), fun q => by rw [q i k hlt hk] at hb; cases hb⟩
        · rw [g1]
          refine ⟨fun s' q => ?_, fun r q => (by cases q)⟩
          cases q
          refine ⟨⟨i + 1, by rw [cnt hlt hl], hlt, fun j k hj hk => ?_⟩, by rw [cnt hlt hl]; simp only [Int.toNat_natCast]; omega⟩
          rcases Nat.lt_or_ge j i with hji | hji
          · exact hf j k hji hk
          · have : j = i := by omega
            subst this; exact g2 k hk
      · rw [if_neg (by omega)]
        refine ⟨fun q => absurd q (by omega), fun s' q => (by cases q), fun r q => ?_⟩
        cases q
        have : i = l.length := by omega
        subst this
        exact ⟨fun _ => hf, fun _ => rfl⟩) 0 ⟨0, rfl, Nat.zero_le _, fun j k h => absurd h (Nat.not_lt_zero _)⟩
  refine ⟨h1, ?_⟩
  rw [Bool.eq_iff_iff, hF]
  exact h2
theorem r16is_law (x : Ptc) : r16is_pre x ∧ r16is x = fis x := by
  have hI := (fis_law x).2
  obtain ⟨tr, uv, w, h⟩ := x
  unfold r16is_pre r16is
  dsimp only [letP, letV]
  have no : ¬ IsPatch (tr, (uv, (w, h))) → fis (tr, (uv, (w, h))) = false := fun q => by rw [Bool.eq_false_iff]; exact fun z => q (hI.1 z)
  by_cases h0 : (((tr.length : Nat) : Int) == 0) = true
  · refine ⟨fun q => absurd h0 q, ?_⟩
    rw [if_pos h0, no]
    intro q
    have h1 : tr.length = 0 := by simpa using h0
    have h2 := q.same
    have h3 := q.ok
    dsimp only at h2 h3
    have h4 : uv = [] := List.length_eq_zero_iff.1 (by omega)
    subst h4
    rcases (fbox_law [] (by simp)).2 with ⟨_, e⟩ | ⟨⟨p, hp, _⟩, _⟩ | ⟨g, _⟩
    · rw [e] at h3; cases h3
    · simp [pts] at hp
    · exact g rfl
  rw [if_neg h0]
  by_cases h1 : ((tr.length : Nat) : Int) > 500
  · refine ⟨fun _ q => absurd h1 q, ?_⟩
    rw [if_pos h1, no]
    exact fun q => absurd q.len (by dsimp only; omega)
  rw [if_neg h1]
  by_cases h2 : (((uv.length : Nat) : Int) != ((tr.length : Nat) : Int)) = true
  · refine ⟨fun _ _ q => absurd h2 q, ?_⟩
    rw [if_pos h2, no]
    intro q
    have := q.same
    dsimp only at this
    rw [this] at h2; simp at h2
  rw [if_neg h2]
  have hlen : uv.length = tr.length := by simp only [bne_iff_ne, ne_eq, Decidable.not_not] at h2; omega
  have hl : uv.length < 4611686018427387904 := by omega
  have hh := all_loop uv hl (fun t => !decide (Rt t)) (r16is_l0_step (tr, (uv, (w, h)))) (r16is_l0_pre (tr, (uv, (w, h)))) (fun i hi => by
      unfold r16is_l0_pre
      intro q
      simp only [Int.toNat_natCast]; dsimp only at q ⊢; omega) (fun i t ht => by
      have hlt := lt_of_get ht
      unfold r16is_l0_step
      dsimp only [letV]
      rw [if_pos (by omega), Int.toNat_natCast, getD_of ht, show r10right t = decide (Rt t) from r10right_law _ _ _]) (by
      unfold r16is_l0_step
      dsimp only
      rw [if_neg (by omega)])
  rw [notAny (P := Rt) (fun _ => rfl)] at hh
  obtain ⟨hT, hR⟩ := hh
  have hb := r16box_law uv hl
  have ha := r16apart_law uv hl
  refine ⟨fun _ _ _ => ⟨hT, ?_⟩, ?_⟩
  · cases run (r16is_l0_step (tr, (uv, (w, h)))) 0 with
    | inl a => trivial
    | inr b => exact ⟨hb.1, fun _ _ _ _ _ _ => ha.1⟩
  cases hr : run (r16is_l0_step (tr, (uv, (w, h)))) 0 with
  | inl a =>
    rw [hr] at hR
    dsimp only [Sum.elim_inl] at hR ⊢
    rw [no]
    intro q
    rw [decide_eq_true (show ∀ t ∈ uv, Rt t from q.right)] at hR; cases hR
  | inr b =>
    rw [hr] at hR
    dsimp only [Sum.elim_inr] at hR ⊢
    have hright : ∀ t ∈ uv, Rt t := of_decide_eq_true hR.symm
    rw [hb.2, ha.2, r16size_law, r16size_law, fsize_law, fsize_law]
    dsimp only
    rw [Bool.eq_iff_iff, hI]
    by_cases h4 : ((fbox uv).2.2 != 0) = true
    · rw [if_pos h4]
      refine ⟨fun q => (by cases q), fun q => ?_⟩
      have := q.ok
      dsimp only at this
      rw [this] at h4; exact absurd h4 (by decide)
    rw [if_neg h4]
    have h4 : (fbox uv).2.2 = 0 := by simpa using h4
    have he : (((fbox uv).1.1 == 0) && (((fbox uv).1.2 == 0) && true)) = true ↔ (fbox uv).1 = z2 := by
      generalize (fbox uv).1 = p
      obtain ⟨a, b⟩ := p
      simp
    by_cases h5 : (fbox uv).1 = z2
    · have hhi : (fbox uv).2.1.1 ≤ 4096 ∧ (fbox uv).2.1.2 ≤ 4096 := by
        rcases (fbox_law uv hl).2 with ⟨_, e⟩ | ⟨_, e⟩ | ⟨_, hs, lo, hi, hB, e⟩
        · rw [e]; decide
        · rw [e]; decide
        · rw [e]
          obtain ⟨p, hp, e1⟩ := hB.h1
          obtain ⟨q, hq, e2⟩ := hB.h2
          have s1 := hs p hp
          have s2 := hs q hq
          dsimp only; omega
      rw [he.2 h5, if_neg (by decide), if_neg (by omega), if_neg (by omega)]
      by_cases h6 : w = Sz (fbox uv).2.1.1
      · rw [if_pos (by rw [h6]; simp)]
        by_cases h7 : h = Sz (fbox uv).2.1.2
        · rw [if_pos (by rw [h7]; simp)]
          exact ⟨fun q => ⟨by dsimp only; omega, hlen, hright, h4, h5, h6, h7, q⟩, fun q => q.free⟩
        · rw [if_neg (by simpa using h7)]
          exact ⟨fun q => (by cases q), fun q => absurd q.h h7⟩
      · rw [if_neg (by simpa using h6)]
        exact ⟨fun q => (by cases q), fun q => absurd q.w h6⟩
    · rw [if_pos (by
        rw [Bool.not_eq_true', Bool.eq_false_iff]
        exact fun q => h5 (he.1 q))]
      exact ⟨fun q => (by cases q), fun q => absurd q.zero h5⟩
end Go.Proofs.YtpbbnoggkbfkoaaGreat
