/- Plain laws: numbers as digits (the document's answer for layer 1), and fractions compared by them. -/
import Derived.Test.YtpdhabfebpjihaaDc
import Derived.Test.YtpdhabfebpjihaaPb
namespace Go.Proofs.Ytpdhabfebpjihaa
open Go Go.Ev Go.Proofs
theorem loop_inv {S R : Type} [Inhabited R] {step : S → S ⊕ R} {pre : S → Prop} (J : S → Prop) (μ : S → Nat) (Post : R → Prop)
    (h : ∀ s, J s → pre s ∧ (∀ s', step s = .inl s' → J s' ∧ μ s' < μ s) ∧ ∀ r, step s = .inr r → Post r) (s : S) (hs : J s) : Term step pre s ∧ Post (run step s) := by
  refine ⟨Term.of J μ (fun s hs => ⟨(h s hs).1, (h s hs).2.1⟩) s hs, ?_⟩
  obtain ⟨n, hn⟩ : ∃ n, n = μ s := ⟨_, rfl⟩
  induction n using Nat.strongRecOn generalizing s with
  | _ n ih =>
    obtain ⟨_, h2, h3⟩ := h s hs
    rw [run_eq]
    cases e : step s with
    | inl s' =>
      obtain ⟨h4, h5⟩ := h2 s' e
      exact ih (μ s') (by omega) s' h4 rfl
    | inr r => exact h3 r e
def V : List Int → Int
  | [] => 0
  | d :: r => d + 10 * V r
def Su : List Int → Int
  | [] => 0
  | d :: r => d + Su r
abbrev Nn (l : List Int) : Prop := ∀ d ∈ l, 0 ≤ d
abbrev Dgs (l : List Int) : Prop := ∀ d ∈ l, 0 ≤ d ∧ d ≤ 9
theorem Dgs.nn {l : List Int} (h : Dgs l) : Nn l := fun d hd => (h d hd).1
theorem p10_pos (n : Nat) : (0 : Int) < 10 ^ n := Int.pow_pos (by decide)
theorem p10_succ (n : Nat) : (10 : Int) ^ (n + 1) = 10 * 10 ^ n := by rw [Int.pow_succ, Int.mul_comm]
theorem V_app (a b : List Int) : V (a ++ b) = V a + 10 ^ a.length * V b := by
  induction a with
  | nil => simp [V]
  | cons d r ih => simp only [List.cons_append, V, ih, List.length_cons, p10_succ]; grind
theorem V_drop (l : List Int) (k : Nat) : V (l.drop k) = l.getD k 0 + 10 * V (l.drop (k + 1)) := by
  rcases Nat.lt_or_ge k l.length with h | h
  · rw [List.drop_eq_getElem_cons h, List.getD_eq_getElem?_getD, List.getElem?_eq_getElem h]; rfl
  · rw [List.drop_eq_nil_of_le h, List.drop_eq_nil_of_le (by omega), List.getD_eq_getElem?_getD, List.getElem?_eq_none h]; rfl
theorem V_split (l : List Int) (k : Nat) : V l = V (l.take k) + 10 ^ k * V (l.drop k) := by
  rcases Nat.lt_or_ge k l.length with h | h
  · have := V_app (l.take k) (l.drop k)
    rw [List.take_append_drop, List.length_take, Nat.min_eq_left (by omega)] at this
    exact this
  · rw [List.take_of_length_le h, List.drop_eq_nil_of_le h]; simp [V]
theorem V_take (l : List Int) (k : Nat) : V (l.take (k + 1)) = V (l.take k) + 10 ^ k * l.getD k 0 := by
  rcases Nat.lt_or_ge k l.length with h | h
  · rw [List.take_add_one, List.getElem?_eq_getElem h, Option.toList_some, V_app, List.length_take, Nat.min_eq_left (by omega), List.getD_eq_getElem?_getD, List.getElem?_eq_getElem h]
    simp [V]
  · rw [List.take_of_length_le (by omega), List.take_of_length_le h, List.getD_eq_getElem?_getD, List.getElem?_eq_none h]; simp
theorem V_nn {l : List Int} (h : Nn l) : 0 ≤ V l := by
  induction l with
  | nil => exact Int.le_refl _
  | cons d r ih =>
    have h1 := h d (by simp)
    have h2 := ih fun x hx => h x (by simp [hx])
    simp only [V]; omega
theorem V_lt {l : List Int} (h : Dgs l) : V l < 10 ^ l.length := by
  induction l with
  | nil => decide
  | cons d r ih =>
    have h1 := h d (by simp)
    have h2 := ih fun x hx => h x (by simp [hx])
    simp only [V, List.length_cons, p10_succ]; omega
theorem V_zero {l : List Int} (h : Nn l) (hv : V l = 0) : ∀ d ∈ l, d = 0 := by
  induction l with
  | nil => intro d hd; cases hd
  | cons d r ih =>
    have h1 := h d (by simp)
    have h2 := V_nn (l := r) fun x hx => h x (by simp [hx])
    simp only [V] at hv
    intro x hx
    rcases List.mem_cons.1 hx with rfl | hx
    · omega
    · exact ih (fun x hx => h x (by simp [hx])) (by omega) x hx
theorem V_zeros {l : List Int} (h : ∀ d ∈ l, d = 0) : V l = 0 := by
  induction l with
  | nil => rfl
  | cons d r ih =>
    have h1 := h d (by simp)
    have h2 := ih fun x hx => h x (by simp [hx])
    simp only [V]; omega
theorem getD_nn {l : List Int} (h : Nn l) (i : Nat) : 0 ≤ l.getD i 0 := by
  rw [List.getD_eq_getElem?_getD]
  cases e : l[i]? with
  | none => exact Int.le_refl _
  | some x => exact h x (List.mem_of_getElem? e)
theorem getD_dg {l : List Int} (h : Dgs l) (i : Nat) : 0 ≤ l.getD i 0 ∧ l.getD i 0 ≤ 9 := by
  rw [List.getD_eq_getElem?_getD]
  cases e : l[i]? with
  | none => exact ⟨by decide, by decide⟩
  | some x => exact h x (List.mem_of_getElem? e)
theorem getD_out {l : List Int} {i : Nat} (h : l.length ≤ i) : l.getD i 0 = 0 := by
  rw [List.getD_eq_getElem?_getD, List.getElem?_eq_none h]; rfl
theorem take_dg {l : List Int} (h : Dgs l) (k : Nat) : Dgs (l.take k) := fun d hd => h d (List.mem_of_mem_take hd)
theorem drop_dg {l : List Int} (h : Dgs l) (k : Nat) : Dgs (l.drop k) := fun d hd => h d (List.mem_of_mem_drop hd)
theorem V_take_lt {l : List Int} (h : Dgs l) (k : Nat) : 0 ≤ V (l.take k) ∧ V (l.take k) < 10 ^ k := by
  refine ⟨V_nn (take_dg h k).nn, ?_⟩
  induction k with
  | zero => simp [V]
  | succ k ih =>
    rw [V_take, p10_succ]
    have := Int.mul_le_mul_of_nonneg_left (getD_dg h k).2 (show (0 : Int) ≤ 10 ^ k from Int.le_of_lt (p10_pos k))
    omega
/-! ### trim -/
theorem trim_law (b : Bool) (d : List Int) (hd : Nn d) (hl : d.length < 1000000) : r1trim_pre (b, d) ∧ ∃ d', r1trim (b, d) = (b && decide (0 < V d), d') ∧ V d' = V d ∧ (∀ x ∈ d', x ∈ d) ∧ d'.length ≤ d.length := by
  obtain ⟨h1, n, hr, hn, hz, hw⟩ := loop_inv (step := r1trim_l0_step (b, d)) (pre := r1trim_l0_pre (b, d)) (fun s => ∃ n : Nat, s = n ∧ n ≤ d.length ∧ ∀ x ∈ d.drop n, x = 0) (fun s => s.toNat)
    (fun r => ∃ n : Nat, r = n ∧ n ≤ d.length ∧ (∀ x ∈ d.drop n, x = 0) ∧ (n = 0 ∨ d.getD (n - 1) 0 ≠ 0)) (fun s ⟨n, e, hn, hz⟩ => by
      subst e
      match n with
      | 0 =>
        refine ⟨fun h => absurd h (by decide), fun s' h => ?_, fun r h => ?_⟩ <;> unfold r1trim_l0_step at h <;> rw [if_neg (by decide)] at h
        · cases h
        · cases h; exact ⟨0, rfl, by omega, hz, .inl rfl⟩
      | n + 1 =>
        have e : w64 (((n + 1 : Nat) : Int) - 1) = n := by rw [w64_id (by omega) (by omega)]; omega
        unfold r1trim_l0_step r1trim_l0_pre
        dsimp only
        rw [e, Int.toNat_natCast, if_pos (by omega)]
        refine ⟨fun _ => by omega, fun s' h => ?_, fun r h => ?_⟩
        · split at h
          · rename_i h0
            cases h
            refine ⟨⟨n, rfl, by omega, fun x hx => ?_⟩, by simp⟩
            rw [List.drop_eq_getElem_cons (by omega)] at hx
            rcases List.mem_cons.1 hx with rfl | hx
            · rw [List.getD_eq_getElem?_getD, List.getElem?_eq_getElem (by omega)] at h0
              simpa using h0
            · exact hz x hx
          · cases h
        · split at h
          · cases h
          · rename_i h0
            cases h
            exact ⟨n + 1, rfl, hn, hz, .inr (by simpa using h0)⟩) (d.length : Int) ⟨d.length, rfl, Nat.le_refl _, by simp⟩
  have hv : V (d.take n) = V d := by rw [V_split d n, V_zeros hz]; omega
  have hpos : (0 < n) ↔ 0 < V d := by
    have h0 := V_nn hd
    constructor
    · intro h
      rcases hw with hw | hw
      · omega
      · rcases Int.lt_or_eq_of_le h0 with h2 | h2
        · exact h2
        · exact absurd (V_zero hd h2.symm _ (by
            rw [List.getD_eq_getElem?_getD, List.getElem?_eq_getElem (by omega)]; exact List.getElem_mem _)) hw
    · intro h
      rcases Nat.eq_zero_or_pos n with h2 | h2
      · subst h2
        simp [V] at hv; omega
      · exact h2
  refine ⟨⟨h1, ?_⟩, d.take n, ?_, hv, fun x hx => List.mem_of_mem_take hx, by simp; omega⟩
  · unfold letP
    dsimp only
    rw [hr]
    exact ⟨fun _ => ⟨by omega, by omega⟩, fun _ => ⟨by omega, by omega⟩⟩
  · unfold r1trim
    dsimp only [letV]
    rw [hr, Int.toNat_natCast]
    cases b
    · rfl
    · rw [if_pos rfl]
      congr 1
      rw [Bool.true_and, Bool.eq_iff_iff, decide_eq_true_iff, decide_eq_true_iff, ← hpos]; omega
theorem digit_law (a : Bool × List Int) (i : Nat) : r1digit_pre (a, (i : Int)) ∧ r1digit (a, (i : Int)) = a.2.getD i 0 := by
  unfold r1digit r1digit_pre
  dsimp only
  rw [Int.toNat_natCast]
  refine ⟨fun h => by omega, ?_⟩
  split
  · rfl
  · rw [getD_out (by omega)]
/-! ### Of an int -/
theorem tm10 (m : Int) : (0 ≤ m → m.tdiv 10 = m / 10 ∧ m.tmod 10 = m % 10) ∧ (m < 0 → m.tdiv 10 = -((-m) / 10) ∧ m.tmod 10 = -((-m) % 10)) := by
  refine ⟨fun h => ⟨Int.tdiv_eq_ediv_of_nonneg h, Int.tmod_eq_emod_of_nonneg h⟩, fun h => ?_⟩
  have e1 := Int.tdiv_eq_ediv_of_nonneg (a := -m) (b := 10) (by omega)
  have e2 := Int.tmod_eq_emod_of_nonneg (a := -m) (b := 10) (by omega)
  rw [Int.neg_tdiv] at e1
  rw [Int.neg_tmod] at e2
  omega
theorem ofint_law (n : Int) (h1 : -9223372036854775808 ≤ n) (h2 : n ≤ 9223372036854775807) : r1ofint_pre n ∧ ∃ d, r1ofint n = (decide (n < 0), d) ∧ V d = n.natAbs ∧ Dgs d ∧ d.length ≤ 19 := by
  obtain ⟨g1, gl, gd, gv⟩ := loop_inv (step := r1ofint_l0_step n) (pre := r1ofint_l0_pre n) (fun s => s.1.natAbs < 10 ^ (19 - s.2.length) ∧ s.2.length ≤ 19 ∧ Dgs s.2 ∧ V s.2 + 10 ^ s.2.length * (s.1.natAbs : Int) = n.natAbs ∧ -9223372036854775808 ≤ s.1 ∧ s.1 ≤ 9223372036854775807) (fun s => s.1.natAbs)
    (fun r => r.length ≤ 19 ∧ Dgs r ∧ V r = n.natAbs) (fun s hs => by
      obtain ⟨m, ds⟩ := s
      obtain ⟨j1, j2, j3, j4, j5, j6⟩ := hs
      dsimp only at j1 j2 j3 j4 j5 j6
      unfold r1ofint_l0_step r1ofint_l0_pre
      dsimp only
      by_cases h0 : m = 0
      · subst h0
        refine ⟨fun h => by simp at h, fun s' h => ?_, fun r h => ?_⟩ <;> rw [if_neg (by decide)] at h
        · cases h
        · cases h; exact ⟨j2, j3, by simpa using j4⟩
      · have hlen : ds.length < 19 := by
          rcases Nat.lt_or_ge ds.length 19 with h | h
          · exact h
          · have : 19 - ds.length = 0 := by omega
            rw [this] at j1; omega
        refine ⟨fun _ => ⟨fun _ => by omega, fun _ => by omega⟩, ?_⟩
        rw [if_pos (by simpa using h0)]
        have key : ∀ (q r : Int), q.natAbs = m.natAbs / 10 → -9223372036854775808 ≤ q → q ≤ 9223372036854775807 → r = (m.natAbs % 10 : Nat) → (q.natAbs < 10 ^ (19 - (ds ++ [r]).length) ∧ (ds ++ [r]).length ≤ 19 ∧ Dgs (ds ++ [r]) ∧ V (ds ++ [r]) + 10 ^ (ds ++ [r]).length * (q.natAbs : Int) = n.natAbs ∧ -9223372036854775808 ≤ q ∧ q ≤ 9223372036854775807) ∧ q.natAbs < m.natAbs := by
          intro q r hq q1 q2 hr
          have e : 19 - ds.length = (19 - (ds ++ [r]).length) + 1 := by simp; omega
          rw [e, Nat.pow_succ] at j1
          refine ⟨⟨by rw [hq]; omega, by simp; omega, fun d hd => ?_, ?_, q1, q2⟩, by omega⟩
          · rcases List.mem_append.1 hd with hd | hd
            · exact j3 d hd
            · rw [List.mem_singleton] at hd; subst hd; omega
          · rw [V_app, List.length_append, List.length_singleton, p10_succ, hq, ← j4]
            simp only [V]
            have : (m.natAbs : Int) = 10 * ((m.natAbs / 10 : Nat) : Int) + ((m.natAbs % 10 : Nat) : Int) := by omega
            rw [hr, this]
            generalize (10 : Int) ^ ds.length = t
            generalize ((m.natAbs / 10 : Nat) : Int) = u
            generalize ((m.natAbs % 10 : Nat) : Int) = v
            grind
        obtain ⟨t1, t2⟩ := tm10 m
        rcases Int.lt_or_le m 0 with hm | hm
        · obtain ⟨e1, e2⟩ := t2 hm
          rw [e1, e2, w64_id (n := -(-m / 10)) (by omega) (by omega)]
          refine ⟨fun s' h => ?_, fun r h => ?_⟩
          · split at h
            · cases h
              rw [w64_id (by omega) (by omega)]
              exact key _ _ (by omega) (by omega) (by omega) (by omega)
            · cases h
              exact key _ _ (by omega) (by omega) (by omega) (by omega)
          · split at h <;> cases h
        · obtain ⟨e1, e2⟩ := t1 hm
          rw [e1, e2, w64_id (n := m / 10) (by omega) (by omega)]
          refine ⟨fun s' h => ?_, fun r h => ?_⟩
          · split at h
            · omega
            · cases h
              exact key _ _ (by omega) (by omega) (by omega) (by omega)
          · split at h <;> cases h) (n, []) ⟨by dsimp only [List.length_nil, Nat.sub_zero]; omega, by simp, (fun d hd => by cases hd), by simp [V], h1, h2⟩
  obtain ⟨t1, d, t2, t3, t4, t5⟩ := trim_law (decide (n < 0)) (run (r1ofint_l0_step n) (n, [])) gd.nn (by omega)
  refine ⟨⟨g1, t1⟩, d, ?_, by rw [t3, gv], fun x hx => gd x (t4 x hx), by omega⟩
  unfold r1ofint
  dsimp only [letV]
  rw [t2, gv]
  congr 1
  rw [Bool.eq_iff_iff, Bool.and_eq_true, decide_eq_true_iff, decide_eq_true_iff]; omega
end Go.Proofs.Ytpdhabfebpjihaa
