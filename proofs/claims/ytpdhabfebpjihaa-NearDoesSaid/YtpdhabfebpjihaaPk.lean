/- Plain laws: products of numbers as digits; fractions compared by them. -/
import Derived.Test.YtpdhabfebpjihaaPj
namespace Go.Proofs.Ytpdhabfebpjihaa
open Go Go.Ev Go.Proofs
theorem getD_set_eq {l : List Int} {i : Nat} (v : Int) (h : i < l.length) : (l.set i v).getD i 0 = v := by
  rw [List.getD_eq_getElem?_getD, List.getElem?_set_self h]; rfl
theorem getD_set_ne {l : List Int} {i j : Nat} (v : Int) (h : i ≠ j) : (l.set i v).getD j 0 = l.getD j 0 := by
  rw [List.getD_eq_getElem?_getD, List.getElem?_set_ne h, List.getD_eq_getElem?_getD]
theorem V_set : ∀ (l : List Int) (i : Nat) (v : Int), i < l.length → V (l.set i v) = V l + 10 ^ i * (v - l.getD i 0)
  | [], i, v, h => by simp at h
  | d :: r, 0, v, _ => by simp [V]; omega
  | d :: r, i + 1, v, h => by
    have ih := V_set r i v (by simpa using h)
    have e : (d :: r).getD (i + 1) 0 = r.getD i 0 := rfl
    simp only [List.set_cons_succ, V, ih, p10_succ, e]; grind
theorem Su_set : ∀ (l : List Int) (i : Nat) (v : Int), i < l.length → Su (l.set i v) = Su l + (v - l.getD i 0)
  | [], i, v, h => by simp at h
  | d :: r, 0, v, _ => by simp [Su]; omega
  | d :: r, i + 1, v, h => by
    have ih := Su_set r i v (by simpa using h)
    have e : (d :: r).getD (i + 1) 0 = r.getD i 0 := rfl
    simp only [List.set_cons_succ, Su, ih, e]; omega
theorem Nn_set {l : List Int} {i : Nat} {v : Int} (h : Nn l) (hv : 0 ≤ v) : Nn (l.set i v) := fun d hd => by
  rcases List.mem_or_eq_of_mem_set hd with h1 | h1
  · exact h d h1
  · omega
theorem Su_nn {l : List Int} (h : Nn l) : 0 ≤ Su l := by
  induction l with
  | nil => exact Int.le_refl _
  | cons d r ih =>
    have h1 := h d (by simp)
    have h2 := ih fun x hx => h x (by simp [hx])
    simp only [Su]; omega
theorem getD_Su : ∀ {l : List Int}, Nn l → ∀ i : Nat, l.getD i 0 ≤ Su l
  | [], _, i => by simp [Su]
  | d :: r, h, 0 => by
    have := Su_nn (l := r) fun x hx => h x (by simp [hx])
    simp [Su]; omega
  | d :: r, h, i + 1 => by
    have h1 := h d (by simp)
    have := getD_Su (l := r) (fun x hx => h x (by simp [hx])) i
    have e : (d :: r).getD (i + 1) 0 = r.getD i 0 := rfl
    rw [e]; simp only [Su]; omega
theorem V_rep (n : Nat) : V (List.replicate n 0) = 0 := V_zeros fun d hd => (List.mem_replicate.1 hd).2
theorem Su_rep (n : Nat) : Su (List.replicate n 0) = 0 := by
  induction n with
  | zero => rfl
  | succ n ih => simp only [List.replicate_succ, Su, ih]; rfl
/-- One step of a product: a digit is added at a place, what is above 9 goes on. -/
def put (l : List Int) (j : Nat) (x : Int) : List Int :=
  ((l.set j (l.getD j 0 + x)).set (j + 1) (l.getD (j + 1) 0 + (l.getD j 0 + x) / 10)).set j ((l.getD j 0 + x) % 10)
theorem put_law {l : List Int} {j : Nat} {x : Int} (hl : j + 1 < l.length) (hn : Nn l) (hx : 0 ≤ x) : (put l j x).length = l.length ∧ Nn (put l j x) ∧ V (put l j x) = V l + 10 ^ j * x ∧ Su (put l j x) ≤ Su l + x := by
  have g0 := getD_nn hn j
  have g1 := getD_nn hn (j + 1)
  unfold put
  refine ⟨by simp, Nn_set (Nn_set (Nn_set hn (by omega)) (by omega)) (by omega), ?_, ?_⟩
  · rw [V_set _ _ _ (by simp; omega), V_set _ _ _ (by simp; omega), V_set _ _ _ (by omega), getD_set_ne _ (show j ≠ j + 1 by omega), getD_set_ne _ (show j + 1 ≠ j by omega), getD_set_eq _ (show j < l.length by omega), p10_succ]
    have := Int.mul_ediv_add_emod (l.getD j 0 + x) 10
    generalize (l.getD j 0 + x) / 10 = q at *
    generalize (l.getD j 0 + x) % 10 = r at *
    have hr : r = l.getD j 0 + x - 10 * q := by omega
    rw [hr]; grind
  · rw [Su_set _ _ _ (by simp; omega), Su_set _ _ _ (by simp; omega), Su_set _ _ _ (by omega), getD_set_ne _ (show j ≠ j + 1 by omega), getD_set_ne _ (show j + 1 ≠ j by omega), getD_set_eq _ (show j < l.length by omega)]
    omega
theorem inner_law (a b : Bool × List Int) (ha : Dgs a.2) (hb : Dgs b.2) (la : a.2.length < 1000) (lb : b.2.length < 1000) (I : Nat) (hI : I < a.2.length) (out : List Int) (hl : out.length = a.2.length + b.2.length + 1) (hn : Nn out) (hs : Su out ≤ 1000000000) :
    Term (r1times_l2_step (a, b)) (r1times_l2_pre (a, b)) (out, ((I : Int), 0)) ∧ ∃ out', run (r1times_l2_step (a, b)) (out, ((I : Int), 0)) = (out', (I : Int)) ∧ out'.length = a.2.length + b.2.length + 1 ∧ Nn out' ∧ V out' = V out + 10 ^ I * (a.2.getD I 0 * V b.2) ∧ Su out' ≤ Su out + 81 * b.2.length := by
  obtain ⟨h1, h2⟩ := loop_inv (step := r1times_l2_step (a, b)) (pre := r1times_l2_pre (a, b))
    (fun s => ∃ k : Nat, s.2.1 = (I : Int) ∧ s.2.2 = k ∧ k ≤ b.2.length ∧ s.1.length = a.2.length + b.2.length + 1 ∧ Nn s.1 ∧ V s.1 = V out + 10 ^ I * (a.2.getD I 0 * V (b.2.take k)) ∧ Su s.1 ≤ Su out + 81 * k)
    (fun s => b.2.length - s.2.2.toNat) (fun r => ∃ out', r = (out', (I : Int)) ∧ out'.length = a.2.length + b.2.length + 1 ∧ Nn out' ∧ V out' = V out + 10 ^ I * (a.2.getD I 0 * V b.2) ∧ Su out' ≤ Su out + 81 * b.2.length) (fun s ⟨k, e1, e2, hk, sl, sn, sv, ss⟩ => by
      obtain ⟨o, i, kk⟩ := s
      dsimp only at e1 e2 sl sn sv ss
      subst e1; subst e2
      have j1 : w64 ((I : Int) + (k : Int)) = ((I + k : Nat) : Int) := by rw [w64_id (by omega) (by omega)]; omega
      have j2 : w64 (((I + k : Nat) : Int) + 1) = ((I + k + 1 : Nat) : Int) := by rw [w64_id (by omega) (by omega)]; omega
      unfold r1times_l2_step r1times_l2_pre
      dsimp only
      refine ⟨fun h => ?_, ?_⟩
      · simp only [j1, j2, Int.toNat_natCast, List.length_set]; omega
      · by_cases hlt : k < b.2.length
        · have da := getD_dg ha I
          have db := getD_dg hb k
          have g0 := getD_nn sn (I + k)
          have g1 := getD_nn sn (I + k + 1)
          have u0 := getD_Su sn (I + k)
          have u1 := getD_Su sn (I + k + 1)
          have mm := mulb (a := a.2.getD I 0) (b := b.2.getD k 0) (A := 9) (B := 9) (by omega) (by omega) (by omega) (by omega)
          have m0 := Int.mul_nonneg da.1 db.1
          rw [if_pos (by omega)]
          refine ⟨fun s' h => ?_, fun r h => by cases h⟩
          have e : s' = (put o (I + k) (a.2.getD I 0 * b.2.getD k 0), ((I : Int), ((k + 1 : Nat) : Int))) := by
            cases h
            simp only [j1, j2, Int.toNat_natCast]
            rw [w64_id (n := a.2.getD I 0 * b.2.getD k 0) (by omega) (by omega), w64_id (n := o.getD (I + k) 0 + a.2.getD I 0 * b.2.getD k 0) (by omega) (by omega)]
            rw [getD_set_ne _ (show I + k ≠ I + k + 1 by omega), getD_set_eq _ (show I + k < o.length by omega), getD_set_ne _ (show I + k + 1 ≠ I + k by omega), getD_set_eq _ (show I + k < o.length by omega)]
            rw [Int.tdiv_eq_ediv_of_nonneg (by omega), Int.tmod_eq_emod_of_nonneg (by omega), w64_id (n := (o.getD (I + k) 0 + a.2.getD I 0 * b.2.getD k 0) / 10) (by omega) (by omega), w64_id (n := o.getD (I + k + 1) 0 + _) (by omega) (by omega), w64_id (n := (k : Int) + 1) (by omega) (by omega)]
            rfl
          subst e
          obtain ⟨p1, p2, p3, p4⟩ := put_law (l := o) (j := I + k) (x := a.2.getD I 0 * b.2.getD k 0) (by omega) sn m0
          refine ⟨⟨k + 1, rfl, rfl, by omega, by dsimp only; omega, p2, ?_, by dsimp only; omega⟩, by dsimp only; omega⟩
          dsimp only
          rw [p3, sv, V_take, Int.pow_add]; grind
        · rw [if_neg (by omega)]
          refine ⟨(fun s' h => by cases h), fun r h => ?_⟩
          cases h
          have : k = b.2.length := by omega
          subst this
          rw [List.take_of_length_le (Nat.le_refl _)] at sv
          exact ⟨o, rfl, sl, sn, sv, ss⟩) (out, ((I : Int), 0)) ⟨0, rfl, rfl, by omega, hl, hn, by simp [V], by dsimp only; omega⟩
  exact ⟨h1, h2⟩
theorem outer_law (a b : Bool × List Int) (ha : Dgs a.2) (hb : Dgs b.2) (la : a.2.length < 1000) (lb : b.2.length < 1000) :
    Term (r1times_l0_step (a, b)) (r1times_l0_pre (a, b)) (List.replicate (a.2.length + b.2.length + 1) 0, 0) ∧ ∃ out, run (r1times_l0_step (a, b)) (List.replicate (a.2.length + b.2.length + 1) 0, 0) = out ∧ out.length = a.2.length + b.2.length + 1 ∧ Nn out ∧ V out = V a.2 * V b.2 ∧ Su out ≤ 100000000 := by
  have hm : (b.2.length : Int) * 1000 ≤ 1000000 := by omega
  obtain ⟨h1, h2⟩ := loop_inv (step := r1times_l0_step (a, b)) (pre := r1times_l0_pre (a, b))
    (fun s => ∃ k : Nat, s.2 = (k : Int) ∧ k ≤ a.2.length ∧ s.1.length = a.2.length + b.2.length + 1 ∧ Nn s.1 ∧ V s.1 = V (a.2.take k) * V b.2 ∧ Su s.1 ≤ 81000 * k)
    (fun s => a.2.length - s.2.toNat) (fun out => out.length = a.2.length + b.2.length + 1 ∧ Nn out ∧ V out = V a.2 * V b.2 ∧ Su out ≤ 100000000) (fun s ⟨k, e, hk, sl, sn, sv, ss⟩ => by
      obtain ⟨o, i⟩ := s
      dsimp only at e sl sn sv ss
      subst e
      unfold r1times_l0_step r1times_l0_pre
      dsimp only [letV]
      by_cases hlt : k < a.2.length
      · obtain ⟨i1, o', i2, i3, i4, i5, i6⟩ := inner_law a b ha hb la lb k hlt o sl sn (by omega)
        refine ⟨fun _ => i1, ?_⟩
        rw [if_pos (by omega), i2]
        refine ⟨fun s' h => ?_, fun r h => by cases h⟩
        cases h
        dsimp only
        rw [w64_id (by omega) (by omega)]
        refine ⟨⟨k + 1, rfl, by omega, i3, i4, ?_, by omega⟩, by omega⟩
        rw [i5, sv, V_take]; grind
      · refine ⟨fun h => by omega, ?_⟩
        rw [if_neg (by omega)]
        refine ⟨(fun s' h => by cases h), fun r h => ?_⟩
        cases h
        have : k = a.2.length := by omega
        subst this
        rw [List.take_of_length_le (Nat.le_refl _)] at sv
        exact ⟨sl, sn, sv, by omega⟩) (List.replicate (a.2.length + b.2.length + 1) 0, 0) ⟨0, rfl, by omega, by simp, fun d hd => by rw [(List.mem_replicate.1 hd).2]; exact Int.le_refl _, by simp [V, V_rep], by simp [Su_rep]⟩
  exact ⟨h1, _, rfl, h2⟩
theorem V_last {l : List Int} (h : Nn l) {n : Nat} (hl : l.length = n + 1) (hv : V l < 10 ^ n) : l.getD n 0 = 0 := by
  have h1 := V_split l n
  have h2 := V_drop l n
  rw [List.drop_eq_nil_of_le (show l.length ≤ n + 1 by omega)] at h2
  have h3 := V_nn (l := l.take n) fun d hd => h d (List.mem_of_mem_take hd)
  have h4 := getD_nn h n
  have hp := p10_pos n
  rcases Int.lt_or_eq_of_le h4 with h5 | h5
  · have := Int.mul_le_mul_of_nonneg_left (show (1 : Int) ≤ l.getD n 0 by omega) (Int.le_of_lt hp)
    rw [h2] at h1
    simp only [V, Int.mul_zero, Int.add_zero] at h1
    omega
  · exact h5.symm
theorem last_law (x : (Bool × List Int) × (Bool × List Int)) (out : List Int) (n : Nat) (hl : out.length = n + 1) (hn : Nn out) (hs : Su out ≤ 1000000000) (hnn : n < 10000) (hv : V out < 10 ^ n) :
    Term (r1times_l4_step x) (r1times_l4_pre x) (out, 0) ∧ ∃ out', run (r1times_l4_step x) (out, 0) = out' ∧ out'.length = n + 1 ∧ V out' = V out ∧ Dgs out' := by
  obtain ⟨h1, h2⟩ := loop_inv (step := r1times_l4_step x) (pre := r1times_l4_pre x)
    (fun s => ∃ k : Nat, s.2 = (k : Int) ∧ k ≤ n ∧ s.1.length = n + 1 ∧ Nn s.1 ∧ V s.1 = V out ∧ Su s.1 ≤ Su out ∧ ∀ t, t < k → s.1.getD t 0 ≤ 9)
    (fun s => n - s.2.toNat) (fun o => o.length = n + 1 ∧ V o = V out ∧ Dgs o) (fun s ⟨k, e, hk, sl, sn, sv, ss, sd⟩ => by
      obtain ⟨o, i⟩ := s
      dsimp only at e sl sn sv ss sd
      subst e
      have j2 : w64 ((k : Int) + 1) = ((k + 1 : Nat) : Int) := by rw [w64_id (by omega) (by omega)]; omega
      unfold r1times_l4_step r1times_l4_pre
      dsimp only
      rw [j2]
      refine ⟨fun h => ?_, ?_⟩
      · simp only [Int.toNat_natCast, List.length_set]; omega
      · by_cases hlt : k < n
        · rw [if_pos (by omega)]
          refine ⟨fun s' h => ?_, fun r h => by cases h⟩
          have g0 := getD_nn sn k
          have g1 := getD_nn sn (k + 1)
          have u0 := getD_Su sn k
          have u1 := getD_Su sn (k + 1)
          have e : s' = ((o.set (k + 1) (o.getD (k + 1) 0 + o.getD k 0 / 10)).set k (o.getD k 0 % 10), ((k + 1 : Nat) : Int)) := by
            cases h
            simp only [Int.toNat_natCast]
            rw [getD_set_ne _ (show k + 1 ≠ k by omega), Int.tdiv_eq_ediv_of_nonneg g0, Int.tmod_eq_emod_of_nonneg g0, w64_id (n := o.getD k 0 / 10) (by omega) (by omega), w64_id (by omega) (by omega)]
          subst e
          refine ⟨⟨k + 1, rfl, by omega, by simp [sl], Nn_set (Nn_set sn (by omega)) (by omega), ?_, ?_, fun t ht => ?_⟩, by dsimp only; omega⟩
          · dsimp only
            rw [V_set _ _ _ (by simp; omega), V_set _ _ _ (by omega), getD_set_ne _ (by omega), p10_succ, sv]
            have := Int.mul_ediv_add_emod (o.getD k 0) 10
            generalize o.getD k 0 / 10 = q at *
            generalize o.getD k 0 % 10 = r at *
            have hr : o.getD k 0 = 10 * q + r := by omega
            rw [hr]; grind
          · dsimp only
            rw [Su_set _ _ _ (by simp; omega), Su_set _ _ _ (by omega), getD_set_ne _ (by omega)]
            omega
          · dsimp only
            by_cases hk' : t = k
            · subst hk'
              rw [getD_set_eq _ (by simp; omega)]; omega
            · rw [getD_set_ne _ (by omega), getD_set_ne _ (by omega)]
              exact sd t (by omega)
        · rw [if_neg (by omega)]
          refine ⟨(fun s' h => by cases h), fun r h => ?_⟩
          cases h
          have hkn : k = n := by omega
          subst hkn
          have hz := V_last sn sl (by rw [sv]; exact hv)
          refine ⟨sl, sv, fun d hd => ⟨sn d hd, ?_⟩⟩
          obtain ⟨t, ht, rfl⟩ := List.getElem_of_mem hd
          have e : o[t] = o.getD t 0 := by rw [List.getD_eq_getElem?_getD, List.getElem?_eq_getElem ht]; rfl
          rw [e]
          by_cases htk : t < k
          · exact sd t htk
          · have : t = k := by omega
            subst this
            omega) (out, 0) ⟨0, rfl, by omega, hl, hn, rfl, Int.le_refl _, fun t ht => by omega⟩
  exact ⟨h1, _, rfl, h2⟩
theorem times_law (a b : Bool × List Int) (ha : Dgs a.2) (hb : Dgs b.2) (la : a.2.length < 400) (lb : b.2.length < 400) : r1times_pre (a, b) ∧ ∃ z, r1times (a, b) = z ∧ Val z = Val a * Val b ∧ Dgs z.2 ∧ z.2.length < 1000 := by
  have e1 : w64 (w64 ((a.2.length : Int) + (b.2.length : Int)) + 1) = ((a.2.length + b.2.length + 1 : Nat) : Int) := by
    rw [w64_id (n := (a.2.length : Int) + (b.2.length : Int)) (by omega) (by omega), w64_id (by omega) (by omega)]; omega
  obtain ⟨o1, out, o2, o3, o4, o5, o6⟩ := outer_law a b ha hb (by omega) (by omega)
  have va := V_lt ha
  have vb := V_lt hb
  have na := V_nn ha.nn
  have nb := V_nn hb.nn
  have hv : V out < 10 ^ (a.2.length + b.2.length) := by
    rw [o5, Int.pow_add]
    exact Int.lt_of_le_of_lt (Int.mul_le_mul_of_nonneg_left (Int.le_of_lt vb) na) (Int.mul_lt_mul_of_pos_right va (p10_pos _))
  obtain ⟨l1, out', l2, l3, l4, l5⟩ := last_law (a, b) out (a.2.length + b.2.length) o3 o4 (by omega) (by omega) hv
  obtain ⟨t1, d, t2, t3, t4, t5⟩ := trim_law (!(a.1 == b.1)) out' l5.nn (by omega)
  refine ⟨?_, ((!(a.1 == b.1)) && decide (0 < V out'), d), ?_, ?_, fun x hx => l5 x (t4 x hx), by dsimp only; omega⟩
  · unfold r1times_pre
    dsimp only [letP]
    rw [e1, Int.toNat_natCast, o2, l2]
    exact ⟨by omega, o1, l1, t1⟩
  · unfold r1times
    dsimp only [letV]
    rw [e1, Int.toNat_natCast, o2, l2]
    exact t2
  · have hm := Int.mul_nonneg na nb
    unfold Val
    dsimp only
    rw [t3, l4, o5]
    by_cases hz : 0 < V a.2 * V b.2
    · cases a.1 <;> cases b.1 <;> simp [hz, Int.neg_mul, Int.mul_neg]
    · have h0 : V a.2 * V b.2 = 0 := by omega
      cases a.1 <;> cases b.1 <;> simp [hz, h0, Int.neg_mul, Int.mul_neg]
theorem ofint_val (n : Int) (h1 : -9223372036854775808 ≤ n) (h2 : n ≤ 9223372036854775807) : r1ofint_pre n ∧ ∃ z, r1ofint n = z ∧ Val z = n ∧ Dgs z.2 ∧ z.2.length ≤ 19 := by
  obtain ⟨p, d, e, hv, hd, hl⟩ := ofint_law n h1 h2
  refine ⟨p, _, e, ?_, hd, hl⟩
  unfold Val
  dsimp only
  rw [hv]
  by_cases h : n < 0
  · rw [decide_eq_true h, if_pos rfl]; omega
  · rw [decide_eq_false h, if_neg (by decide)]; omega
theorem sg_of (u v : Int) : (if decide (u < v) = true then (-1 : Int) else if decide (v < u) = true then 1 else 0) = sg (u - v) := by
  unfold sg
  simp only [decide_eq_true_eq]
  split <;> (try split) <;> (try split) <;> (try split) <;> omega
theorem r3cmp_law {a b : Int × Int} (ha : Fr a) (hb : Fr b) : r3cmp_pre (a, b) ∧ r3cmp (a, b) = sg (a.1 * b.2 - b.1 * a.2) := by
  have hr : ∀ a : Int × Int, Fr a → r3is a = true := fun a ha => by
    unfold r3is
    rw [if_pos (by omega), if_pos (by omega), if_pos (by omega)]
    exact decide_eq_true (by omega)
  obtain ⟨p1, z1, e1, v1, d1, l1⟩ := ofint_val a.1 (by omega) (by omega)
  obtain ⟨p2, z2, e2, v2, d2, l2⟩ := ofint_val b.2 (by omega) (by omega)
  obtain ⟨p3, z3, e3, v3, d3, l3⟩ := ofint_val b.1 (by omega) (by omega)
  obtain ⟨p4, z4, e4, v4, d4, l4⟩ := ofint_val a.2 (by omega) (by omega)
  obtain ⟨q1, x, f1, w1, g1, m1⟩ := times_law z1 z2 d1 d2 (by omega) (by omega)
  obtain ⟨q2, y, f2, w2, g2, m2⟩ := times_law z3 z4 d3 d4 (by omega) (by omega)
  obtain ⟨s1, s2⟩ := less_law x y g1 g2 m1 m2
  obtain ⟨s3, s4⟩ := less_law y x g2 g1 m2 m1
  rw [w1, w2, v1, v2, v3, v4] at s2 s4
  refine ⟨?_, ?_⟩
  · unfold r3cmp_pre
    dsimp only [letP]
    rw [e1, e2, e3, e4, f1, f2]
    exact fun _ _ => ⟨p1, p2, q1, p3, p4, q2, s1, fun _ => s3⟩
  · unfold r3cmp
    dsimp only [letV]
    rw [hr a ha, hr b hb, if_pos rfl, if_pos rfl, e1, e2, e3, e4, f1, f2, s2, s4]
    exact sg_of _ _
end Go.Proofs.Ytpdhabfebpjihaa
