/- Plain laws: sums, products and order of numbers as digits; fractions compared by them. -/
import Derived.Test.YtpdhabfebpjihaaPi
namespace Go.Proofs.Ytpdhabfebpjihaa
open Go Go.Ev Go.Proofs
theorem max_len (a b : List Int) : maxI (a.length : Int) (b.length : Int) = ((max a.length b.length : Nat) : Int) := by unfold maxI; split <;> omega
theorem size_law (a b : Bool × List Int) (ha : Dgs a.2) (hb : Dgs b.2) (la : a.2.length < 1000) (lb : b.2.length < 1000) : r1size_pre (a, b) ∧ (r1size (a, b) ≥ 0 ↔ V b.2 ≤ V a.2) := by
  obtain ⟨h1, h2⟩ := loop_inv (step := r1size_l0_step (a, b)) (pre := r1size_l0_pre (a, b)) (fun s => ∃ k : Nat, s = (k : Int) - 1 ∧ k < 1000 ∧ V (a.2.drop k) = V (b.2.drop k)) (fun s => (s + 1).toNat)
    (fun r => match r with | .inl v => (v = -1 ∧ V a.2 < V b.2) ∨ (v = 1 ∧ V b.2 < V a.2) | .inr _ => V a.2 = V b.2) (fun s ⟨k, e, hk, hz⟩ => by
      subst e
      match k with
      | 0 =>
        refine ⟨fun h => absurd h (by decide), fun s' h => ?_, fun r h => ?_⟩ <;> unfold r1size_l0_step at h <;> rw [if_neg (by decide)] at h
        · cases h
        · cases h
          simpa using hz
      | k + 1 =>
        have e : (((k + 1 : Nat) : Int) - 1) = (k : Int) := by omega
        unfold r1size_l0_step r1size_l0_pre
        dsimp only [letV, letP]
        rw [e, (digit_law a k).2, (digit_law b k).2]
        have pa := (digit_law a k).1
        have pb := (digit_law b k).1
        refine ⟨fun _ => ⟨pa, pb, fun _ => ⟨pa, pb⟩⟩, ?_⟩
        rw [if_pos (by omega)]
        have va := V_drop a.2 k
        have vb := V_drop b.2 k
        have sa := V_split a.2 k
        have sb := V_split b.2 k
        have ta := V_take_lt ha k
        have tb := V_take_lt hb k
        have hp := p10_pos k
        have key : ∀ u v x y : Int, 0 ≤ x → y < 10 ^ k → u < v → y + 10 ^ k * u < x + 10 ^ k * v := fun u v x y hx hy huv => by
          have := Int.mul_le_mul_of_nonneg_left (show u + 1 ≤ v by omega) (Int.le_of_lt hp)
          rw [Int.mul_add, Int.mul_one] at this
          omega
        refine ⟨fun s' h => ?_, fun r h => ?_⟩
        · split at h
          · cases h
          · split at h
            · cases h
            · cases h
              refine ⟨⟨k, by rw [w64_id (by omega) (by omega)], by omega, ?_⟩, by rw [w64_id (by omega) (by omega)]; omega⟩
              rw [va, vb, hz]; omega
        · split at h
          · rename_i hlt
            cases h
            refine .inl ⟨rfl, ?_⟩
            rw [sa, sb]
            exact key _ _ _ _ tb.1 ta.2 (by rw [va, vb, hz]; omega)
          · split at h
            · rename_i hgt
              cases h
              refine .inr ⟨rfl, ?_⟩
              rw [sa, sb]
              exact key _ _ _ _ ta.1 tb.2 (by rw [va, vb, hz]; omega)
            · cases h) (w64 ((maxI (a.2.length : Int) (b.2.length : Int)) - 1)) ⟨max a.2.length b.2.length, by rw [max_len, w64_id (by omega) (by omega)], by omega, by rw [List.drop_eq_nil_of_le (by omega), List.drop_eq_nil_of_le (by omega)]⟩
  refine ⟨h1, ?_⟩
  unfold r1size
  dsimp only [letV]
  generalize run (r1size_l0_step (a, b)) _ = r at h2 ⊢
  cases r with
  | inl v =>
    have h2 : (v = -1 ∧ V a.2 < V b.2) ∨ (v = 1 ∧ V b.2 < V a.2) := h2
    show v ≥ 0 ↔ _
    omega
  | inr _ =>
    have h2 : V a.2 = V b.2 := h2
    show (0 : Int) ≥ 0 ↔ _
    omega
theorem plus_law (a b : Bool × List Int) (ha : Dgs a.2) (hb : Dgs b.2) (la : a.2.length < 1000) (lb : b.2.length < 1000) : r1plus_pre (a, b) ∧ V (r1plus (a, b)) = V a.2 + V b.2 ∧ Dgs (r1plus (a, b)) ∧ (r1plus (a, b)).length ≤ 1000 := by
  obtain ⟨h1, h2⟩ := loop_inv (step := r1plus_l0_step (a, b)) (pre := r1plus_l0_pre (a, b))
    (fun s => ∃ k : Nat, s.2.2 = k ∧ k ≤ max a.2.length b.2.length + 1 ∧ s.1.length = k ∧ Dgs s.1 ∧ (0 ≤ s.2.1 ∧ s.2.1 ≤ 1) ∧ (k = max a.2.length b.2.length + 1 → s.2.1 = 0) ∧ V s.1 + 10 ^ k * s.2.1 = V (a.2.take k) + V (b.2.take k))
    (fun s => max a.2.length b.2.length + 1 - s.2.2.toNat) (fun r => V r = V a.2 + V b.2 ∧ Dgs r ∧ r.length ≤ 1000) (fun s ⟨k, e, hk, hl, hd, hc, hz, hv⟩ => by
      obtain ⟨out, c, i⟩ := s
      dsimp only at e hl hd hc hz hv
      subst e
      unfold r1plus_l0_step r1plus_l0_pre
      dsimp only [letV, letP]
      rw [(digit_law a k).2, (digit_law b k).2, max_len, w64_id (n := ((max a.2.length b.2.length : Nat) : Int) + 1) (by omega) (by omega)]
      have da := getD_dg ha k
      have db := getD_dg hb k
      refine ⟨fun h => ⟨(digit_law a k).1, (digit_law b k).1, by omega⟩, fun s' h => ?_, fun r h => ?_⟩
      · split at h
        · rename_i hlt
          cases h
          rw [w64_id (n := a.2.getD k 0 + b.2.getD k 0) (by omega) (by omega), w64_id (n := a.2.getD k 0 + b.2.getD k 0 + c) (by omega) (by omega), Int.tdiv_eq_ediv_of_nonneg (by omega), Int.tmod_eq_emod_of_nonneg (by omega), w64_id (n := (k : Int) + 1) (by omega) (by omega), w64_id (by omega) (by omega)]
          refine ⟨⟨k + 1, by simp, by omega, by simp [hl], fun d hd' => ?_, by dsimp only; omega, fun hk' => ?_, ?_⟩, by dsimp only; omega⟩
          · rcases List.mem_append.1 hd' with h' | h'
            · exact hd d h'
            · rw [List.mem_singleton] at h'; omega
          · have z1 : a.2.getD k 0 = 0 := getD_out (by omega)
            have z2 : b.2.getD k 0 = 0 := getD_out (by omega)
            dsimp only
            omega
          · rw [V_app, hl, V_take, V_take, p10_succ]
            simp only [V]
            have hx := Int.mul_ediv_add_emod (a.2.getD k 0 + b.2.getD k 0 + c) 10
            generalize (a.2.getD k 0 + b.2.getD k 0 + c) / 10 = q at *
            generalize (a.2.getD k 0 + b.2.getD k 0 + c) % 10 = r at *
            generalize (10 : Int) ^ k = t at *
            have : t * (10 * q + r) = t * (a.2.getD k 0 + b.2.getD k 0 + c) := by rw [hx]
            grind
        · cases h
      · split at h
        · cases h
        · rename_i hge
          cases h
          have hk' : k = max a.2.length b.2.length + 1 := by omega
          have hc0 := hz hk'
          rw [hc0, Int.mul_zero, Int.add_zero, List.take_of_length_le (by omega), List.take_of_length_le (by omega)] at hv
          exact ⟨hv, hd, by omega⟩) ([], (0, 0)) ⟨0, rfl, by omega, rfl, (fun d hd => by cases hd), ⟨by decide, by decide⟩, fun h => by omega, by simp [V]⟩
  exact ⟨h1, h2⟩
theorem minus_law (a b : Bool × List Int) (ha : Dgs a.2) (hb : Dgs b.2) (la : a.2.length < 1000) (lb : b.2.length < 1000) (hle : V b.2 ≤ V a.2) : r1minus_pre (a, b) ∧ V (r1minus (a, b)) = V a.2 - V b.2 ∧ Dgs (r1minus (a, b)) ∧ (r1minus (a, b)).length ≤ 1000 := by
  obtain ⟨h1, h2⟩ := loop_inv (step := r1minus_l0_step (a, b)) (pre := r1minus_l0_pre (a, b))
    (fun s => ∃ k : Nat, s.2.2 = k ∧ k ≤ a.2.length ∧ s.1.length = k ∧ Dgs s.1 ∧ (0 ≤ s.2.1 ∧ s.2.1 ≤ 1) ∧ V s.1 = V (a.2.take k) - V (b.2.take k) + 10 ^ k * s.2.1)
    (fun s => a.2.length - s.2.2.toNat) (fun r => V r = V a.2 - V b.2 ∧ Dgs r ∧ r.length ≤ 1000) (fun s ⟨k, e, hk, hl, hd, hc, hv⟩ => by
      obtain ⟨out, c, i⟩ := s
      dsimp only at e hl hd hc hv
      subst e
      unfold r1minus_l0_step r1minus_l0_pre
      dsimp only [letV, letP]
      rw [(digit_law a k).2, (digit_law b k).2]
      have da := getD_dg ha k
      have db := getD_dg hb k
      rw [w64_id (n := a.2.getD k 0 - b.2.getD k 0) (by omega) (by omega), w64_id (n := a.2.getD k 0 - b.2.getD k 0 - c) (by omega) (by omega)]
      refine ⟨fun h => ⟨(digit_law a k).1, (digit_law b k).1, fun _ => by omega, fun _ => by omega⟩, fun s' h => ?_, fun r h => ?_⟩
      · split at h
        · rename_i hlt
          have key : ∀ x c' : Int, 0 ≤ x ∧ x ≤ 9 → x - 10 * c' = a.2.getD k 0 - b.2.getD k 0 - c → 0 ≤ c' ∧ c' ≤ 1 → (∃ k' : Nat, (((k : Int) + 1) = (k' : Int)) ∧ k' ≤ a.2.length ∧ (out ++ [x]).length = k' ∧ Dgs (out ++ [x]) ∧ (0 ≤ c' ∧ c' ≤ 1) ∧ V (out ++ [x]) = V (a.2.take k') - V (b.2.take k') + 10 ^ k' * c') := fun x c' hx hxc hc' => by
            refine ⟨k + 1, by simp, by omega, by simp [hl], fun d hd' => ?_, hc', ?_⟩
            · rcases List.mem_append.1 hd' with h' | h'
              · exact hd d h'
              · rw [List.mem_singleton] at h'; omega
            · rw [V_app, hl, V_take, V_take, p10_succ, hv]
              simp only [V]
              have : x = a.2.getD k 0 - b.2.getD k 0 - c + 10 * c' := by omega
              rw [this]
              grind
          split at h
          · cases h
            rw [w64_id (n := (k : Int) + 1) (by omega) (by omega), w64_id (by omega) (by omega)]
            exact ⟨key _ 1 (by omega) (by omega) (by omega), by dsimp only; omega⟩
          · cases h
            rw [w64_id (n := (k : Int) + 1) (by omega) (by omega)]
            exact ⟨key _ 0 (by omega) (by omega) (by omega), by dsimp only; omega⟩
        · cases h
      · split at h
        · split at h <;> cases h
        · rename_i hge
          cases h
          have hk' : k = a.2.length := by omega
          have sb := V_split b.2 k
          have tb := V_take_lt hb k
          have dn := V_nn (drop_dg hb k).nn
          have va := V_lt ha
          have vo := V_lt hd
          rw [hl] at vo
          rw [← hk'] at va
          have hp := p10_pos k
          rw [List.take_of_length_le (by omega)] at hv
          have hdz : V (b.2.drop k) = 0 := by
            rcases Int.lt_or_eq_of_le dn with h | h
            · have := Int.mul_le_mul_of_nonneg_left (show (1 : Int) ≤ V (b.2.drop k) by omega) (Int.le_of_lt hp)
              omega
            · exact h.symm
          rw [hdz, Int.mul_zero, Int.add_zero] at sb
          have hc0 : c = 0 := by
            have : c = 0 ∨ c = 1 := by omega
            rcases this with h | h
            · exact h
            · rw [h, Int.mul_one] at hv; omega
          rw [hc0, Int.mul_zero, Int.add_zero, ← sb] at hv
          exact ⟨hv, hd, by omega⟩) ([], (0, 0)) ⟨0, rfl, by omega, rfl, (fun d hd => by cases hd), ⟨by decide, by decide⟩, by simp [V]⟩
  exact ⟨h1, h2⟩
/-- What a number is worth. -/
def Val (a : Bool × List Int) : Int := if a.1 = true then -V a.2 else V a.2
theorem sum_law (a b : Bool × List Int) (ha : Dgs a.2) (hb : Dgs b.2) (la : a.2.length < 1000) (lb : b.2.length < 1000) : r1sum_pre (a, b) ∧ (r1sum (a, b)).1 = decide (Val a + Val b < 0) := by
  obtain ⟨p1, p2, p3, p4⟩ := plus_law a b ha hb la lb
  obtain ⟨z1, z2⟩ := size_law a b ha hb la lb
  have na := V_nn ha.nn
  have nb := V_nn hb.nn
  have tr : ∀ (s : Bool) (d : List Int), Dgs d → d.length ≤ 1000 → r1trim_pre (s, d) ∧ (r1trim (s, d)).1 = (s && decide (0 < V d)) := fun s d hd hl => by
    obtain ⟨t1, d', t2, _⟩ := trim_law s d hd.nn (by omega)
    exact ⟨t1, by rw [t2]⟩
  refine ⟨⟨fun _ => ⟨p1, (tr _ _ p3 p4).1⟩, fun _ => ⟨z1, fun h => ?_, fun h => ?_⟩⟩, ?_⟩
  · obtain ⟨m1, m2, m3, m4⟩ := minus_law a b ha hb la lb (z2.1 h)
    exact ⟨m1, (tr _ _ m3 m4).1⟩
  · obtain ⟨m1, m2, m3, m4⟩ := minus_law b a hb ha lb la (by have : ¬ V b.2 ≤ V a.2 := fun hh => h (z2.2 hh); omega)
    exact ⟨m1, (tr _ _ m3 m4).1⟩
  · unfold r1sum Val
    dsimp only [letV]
    split
    · rename_i hs
      rw [(tr _ _ p3 p4).2, p2]
      have hs : a.1 = b.1 := by simpa using hs
      rw [← hs]
      cases a.1
      · simp; omega
      · simp; omega
    · rename_i hs
      split
      · rename_i h
        have hle := z2.1 h
        obtain ⟨m1, m2, m3, m4⟩ := minus_law a b ha hb la lb hle
        rw [(tr _ _ m3 m4).2, m2]
        cases ea : a.1 <;> cases eb : b.1 <;> rw [ea, eb] at hs <;> simp at hs ⊢ <;> omega
      · rename_i h
        have hle : ¬ V b.2 ≤ V a.2 := fun hh => h (z2.2 hh)
        obtain ⟨m1, m2, m3, m4⟩ := minus_law b a hb ha lb la (by omega)
        rw [(tr _ _ m3 m4).2, m2]
        cases ea : a.1 <;> cases eb : b.1 <;> rw [ea, eb] at hs <;> simp at hs ⊢ <;> omega
theorem less_law (a b : Bool × List Int) (ha : Dgs a.2) (hb : Dgs b.2) (la : a.2.length < 1000) (lb : b.2.length < 1000) : r1less_pre (a, b) ∧ r1less (a, b) = decide (Val a < Val b) := by
  obtain ⟨t1, d, t2, t3, t4, t5⟩ := trim_law (!b.1) b.2 hb.nn (by omega)
  have ho : r1other b = ((!b.1) && decide (0 < V b.2), d) := by unfold r1other; dsimp only [letV]; exact t2
  have hd : Dgs d := fun x hx => hb x (t4 x hx)
  obtain ⟨s1, s2⟩ := sum_law a ((!b.1) && decide (0 < V b.2), d) ha hd la (by dsimp only; omega)
  have nb := V_nn hb.nn
  have hv : Val ((!b.1) && decide (0 < V b.2), d) = -Val b := by
    unfold Val
    dsimp only
    rw [t3]
    cases b.1 <;> simp <;> omega
  refine ⟨⟨t1, ?_⟩, ?_⟩
  · unfold letP
    rw [ho]
    exact s1
  · unfold r1less
    dsimp only [letV]
    rw [ho, s2, hv, Bool.eq_iff_iff, decide_eq_true_iff, decide_eq_true_iff]; omega
end Go.Proofs.Ytpdhabfebpjihaa
