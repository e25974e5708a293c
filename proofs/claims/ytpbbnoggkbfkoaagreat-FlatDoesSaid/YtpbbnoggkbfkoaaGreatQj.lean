/- Plain laws: what 'overlap' comes to. -/
import Derived.Test.YtpbbnoggkbfkoaaGreatQf
namespace Go.Proofs.YtpbbnoggkbfkoaaGreat
open Go Go.Ev Go.Proofs
theorem mside_law {p a b : P2} (n : Int) (hp : Sm p) (ha : Sm a) (hb : Sm b) : mside (p, (a, (b, sg n))) = sg n * sg (Det a b p) := by
  unfold mside
  rw [sside_law, if_pos ⟨ha, hb, hp⟩]
  dsimp only [letV]
  rcases sg_cases n with ⟨_, e⟩ | ⟨_, e⟩ | ⟨_, e⟩ <;> rcases sg_cases (Det a b p) with ⟨_, f⟩ | ⟨_, f⟩ | ⟨_, f⟩ <;> rw [e, f] <;> rfl
/-- All are below. -/
def Bel (m : P2 → Int) (k : Int) (l : List P2) : Bool := l.all fun p => decide (m p < k)
theorem bel_loop (c k : Int) (l : List P2) (hl : l.length < 4611686018427387904) (m : P2 → Int) (step : Int × (Bool × Int) → (Int × (Bool × Int)) ⊕ (Int × Bool)) (hT : Term step (fun _ => True) (c, (true, 0)))
    (h1 : ∀ (i : Nat) (p : P2), l[i]? = some p → step (c, (true, (i : Int))) = .inl (c, (decide (m p < k), w64 ((i : Int) + 1))))
    (h2 : ∀ (i : Nat) (p : P2), l[i]? = some p → step (c, (false, (i : Int))) = .inl (c, (false, w64 ((i : Int) + 1))))
    (h3 : ∀ b, step (c, (b, (l.length : Int))) = .inr (c, b)) : run step (c, (true, 0)) = (c, Bel m k l) := by
  obtain ⟨_, h⟩ := loop_inv (step := step) (pre := fun _ => True) (fun s => ∃ i : Nat, s = (c, (Bel m k (l.take i), (i : Int))) ∧ i ≤ l.length) (fun s => l.length - s.2.2.toNat) (fun r => r = (c, Bel m k l)) (fun s ⟨i, e, hi⟩ => by
    subst e
    refine ⟨trivial, ?_⟩
    rcases Nat.lt_or_ge i l.length with hlt | hge
    · have hg := List.getElem?_eq_getElem hlt
      have hs : step (c, (Bel m k (l.take i), (i : Int))) = .inl (c, (Bel m k (l.take (i + 1)), w64 ((i : Int) + 1))) := by
        rw [List.take_succ_eq_append_getElem hlt]
        have e : Bel m k (l.take i ++ [l[i]]) = (Bel m k (l.take i) && decide (m l[i] < k)) := by unfold Bel; rw [List.all_append, List.all_cons, List.all_nil, Bool.and_true]
        rw [e]
        cases Bel m k (l.take i) with
        | true => rw [h1 i _ hg]; rfl
        | false => rw [h2 i _ hg]; rfl
      refine ⟨fun s' q => ?_, fun r q => ?_⟩
      · rw [hs] at q
        cases q
        rw [cnt hlt hl]
        exact ⟨⟨i + 1, rfl, hlt⟩, by simp only [Int.toNat_natCast]; omega⟩
      · rw [hs] at q; cases q
    · have : i = l.length := by omega
      subst this
      rw [h3, List.take_length]
      exact ⟨fun s' q => (by cases q), fun r q => by cases q; rfl⟩) (c, (true, 0)) ⟨0, rfl, Nat.zero_le _⟩
  exact h
theorem term_true {S R : Type} {step : S → S ⊕ R} {pre : S → Prop} {s : S} (h : Term step pre s) : Term step (fun _ => True) s := by
  induction h with
  | mk s _ _ ih => exact .mk s trivial ih
theorem mapart_law {a b c : P2} (hr : Right a b c) (k : Int) (l : List P2) (hs : ∀ p ∈ l, Sm p) (hl : l.length < 4611686018427387904) :
    mapart ((a, (b, c)), (k, l)) = (Bel (Sd a b c) k l || Bel (Sd b c a) k l || Bel (Sd c a b) k l) := by
  have hT := apart_tm ((a, (b, c)), (k, l)) hl (sg (Det a b c))
  have e1 : run (mapart_l2_13_step ((a, (b, c)), (k, l))) (sg (Det a b c), (true, 0)) = (sg (Det a b c), Bel (Sd a b c) k l) := by
    refine bel_loop _ k l hl _ _ (term_true hT.1) (fun i p hp => ?_) (fun i p hp => ?_) (fun q => ?_)
    · have hlt := lt_of_get hp
      unfold mapart_l2_13_step
      dsimp only [letV]
      rw [if_pos (by omega), if_pos rfl, Int.toNat_natCast, getD_of hp, mside_law _ (hs p (List.mem_of_getElem? hp)) hr.1.1 hr.1.2.1]; rfl
    · have hlt := lt_of_get hp
      unfold mapart_l2_13_step
      dsimp only [letV]
      rw [if_pos (by omega), if_neg (by decide)]
    · unfold mapart_l2_13_step
      dsimp only
      rw [if_neg (by omega)]
  have e2 : run (mapart_l2_16_step ((a, (b, c)), (k, l))) (sg (Det a b c), (true, 0)) = (sg (Det a b c), Bel (Sd b c a) k l) := by
    refine bel_loop _ k l hl _ _ (term_true hT.2.1) (fun i p hp => ?_) (fun i p hp => ?_) (fun q => ?_)
    · have hlt := lt_of_get hp
      unfold mapart_l2_16_step
      dsimp only [letV]
      rw [if_pos (by omega), if_pos rfl, Int.toNat_natCast, getD_of hp, mside_law _ (hs p (List.mem_of_getElem? hp)) hr.1.2.1 hr.1.2.2]
      unfold Sd; rw [det_turn a b c]
    · have hlt := lt_of_get hp
      unfold mapart_l2_16_step
      dsimp only [letV]
      rw [if_pos (by omega), if_neg (by decide)]
    · unfold mapart_l2_16_step
      dsimp only
      rw [if_neg (by omega)]
  have e3 : run (mapart_l2_19_step ((a, (b, c)), (k, l))) (sg (Det a b c), (true, 0)) = (sg (Det a b c), Bel (Sd c a b) k l) := by
    refine bel_loop _ k l hl _ _ (term_true hT.2.2) (fun i p hp => ?_) (fun i p hp => ?_) (fun q => ?_)
    · have hlt := lt_of_get hp
      unfold mapart_l2_19_step
      dsimp only [letV]
      rw [if_pos (by omega), if_pos rfl, Int.toNat_natCast, getD_of hp, mside_law _ (hs p (List.mem_of_getElem? hp)) hr.1.2.2 hr.1.1]
      unfold Sd; rw [det_turn b c a, det_turn a b c]
    · have hlt := lt_of_get hp
      unfold mapart_l2_19_step
      dsimp only [letV]
      rw [if_pos (by omega), if_neg (by decide)]
    · unfold mapart_l2_19_step
      dsimp only
      rw [if_neg (by omega)]
  unfold mapart
  dsimp only [letV]
  rw [sside_law, if_pos hr.1]
  dsimp only
  rw [e1]
  dsimp only
  rw [e2]
  dsimp only
  rw [e3]
  dsimp only
  generalize Bel (Sd a b c) k l = x
  generalize Bel (Sd b c a) k l = y
  generalize Bel (Sd c a b) k l = z
  cases x <;> cases y <;> cases z <;> rfl
def Out1 (a b c : P2) (k : Int) (l : List P2) : Bool := Bel (Sd a b c) k l || Bel (Sd b c a) k l || Bel (Sd c a b) k l
abbrev Rt (t : T2) : Prop := Right t.1 t.2.1 t.2.2
def Ov (t u : T2) : Bool := !Out1 t.1 t.2.1 t.2.2 1 (tp u) && !Out1 u.1 u.2.1 u.2.2 1 (tp t)
theorem tp_sm {t : T2} (h : Rt t) : ∀ p ∈ tp t, Sm p := fun p hp => by
  simp only [tp, List.mem_cons, List.not_mem_nil, or_false] at hp
  rcases hp with rfl | rfl | rfl
  · exact h.1.1
  · exact h.1.2.1
  · exact h.1.2.2
theorem moverlap_law (t u : T2) : moverlap (t, u) = if Rt t ∧ Rt u then (Ov t u, 0) else (false, 1) := by
  obtain ⟨a, b, c⟩ := t
  obtain ⟨d, e, f⟩ := u
  unfold moverlap mboth
  dsimp only [letV]
  rw [mright_law, mright_law]
  by_cases ht : Rt (a, (b, c))
  · by_cases hu : Rt (d, (e, f))
    · have e1 := mapart_law ht 1 (tp (d, (e, f))) (tp_sm hu) (by simp [tp])
      have e2 := mapart_law hu 1 (tp (a, (b, c))) (tp_sm ht) (by simp [tp])
      dsimp only [tp] at e1 e2
      rw [decide_eq_true ht, decide_eq_true hu, if_neg (by decide), if_neg (by decide), if_pos (show Rt (a, (b, c)) ∧ Rt (d, (e, f)) from ⟨ht, hu⟩), e1, e2]
      unfold Ov
      show (if (!Out1 a b c 1 [d, e, f]) = true then (!Out1 d e f 1 [a, b, c], (0 : Int)) else (false, 0)) = (!Out1 a b c 1 [d, e, f] && !Out1 d e f 1 [a, b, c], 0)
      cases Out1 a b c 1 [d, e, f] <;> rfl
    · rw [decide_eq_true ht, decide_eq_false hu, if_neg (by decide), if_pos (by decide), if_neg (fun q => hu q.2)]
  · rw [decide_eq_false ht, if_pos (by decide), if_neg (fun q => ht q.1)]
theorem free_law (t u : T2) : Free t u = true ↔ Rt t ∧ Rt u ∧ Ov t u = false := by
  rw [free_iff, moverlap_law]
  by_cases h : Rt t ∧ Rt u
  · rw [if_pos h]; exact ⟨fun q => ⟨h.1, h.2, q.1⟩, fun q => ⟨q.2.2, rfl⟩⟩
  · rw [if_neg h]; exact ⟨fun q => absurd q.2 (by decide), fun q => absurd ⟨q.1, q.2.1⟩ h⟩
end Go.Proofs.YtpbbnoggkbfkoaaGreat
