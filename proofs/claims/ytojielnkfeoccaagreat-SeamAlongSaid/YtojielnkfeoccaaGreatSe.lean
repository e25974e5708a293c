/- Plain laws of seam: what Level comes to. -/
import Derived.Test.YtojielnkfeoccaaGreatSd
namespace Go.Proofs.YtojielnkfeoccaaGreat
open Go Go.Ev Go.Proofs
def SmV (V : List Int) : Prop := ∀ k, k < V.length → -1 ≤ V.getD k 0 ∧ V.getD k 0 ≤ 255
theorem smV_of {V : List Int} (h : (V.all fun v => decide (-1 ≤ v) && decide (v ≤ 255)) = true) : SmV V := fun k hk => by
  rw [List.all_eq_true] at h
  have := h (V.getD k 0) (by rw [List.getD_eq_getElem?_getD, List.getElem?_eq_getElem hk]; exact List.getElem_mem hk)
  simpa using this
theorem vv_sm {V : List Int} (hV : SmV V) {k : Nat} (hk : k < V.length) : 0 ≤ (vv V k).1 ∧ (vv V k).1 ≤ 255 ∧ 0 ≤ (vv V k).2 ∧ (vv V k).2 ≤ 1 := by
  have := hV k hk
  unfold vv; split <;> dsimp only <;> omega
theorem lv0_step {w : Int} {V : List Int} {l : List Px} (hn : V.length ≤ 80) (hV : SmV V) {S : List (Int × Int)} {i : Nat} (hS : S.length = V.length) (hi : i < V.length)
    (hb : -100000 ≤ (S.getD i (0, 0)).1 ∧ (S.getD i (0, 0)).1 ≤ 100000 ∧ -100000 ≤ (S.getD i (0, 0)).2 ∧ (S.getD i (0, 0)).2 ≤ 100000) :
    level_l0_step (w, (V, l)) (S, (i : Int)) = .inl (addC V S i i, ((i + 1 : Nat) : Int)) := by
  have hv := hV i hi
  unfold level_l0_step
  dsimp only [letV]
  rw [if_pos (by omega)]
  simp only [Int.toNat_natCast]
  unfold addC
  rw [cnt hi (by omega)]
  by_cases h : V.getD i 0 = -1
  · rw [if_neg (by rw [h]; decide), if_neg (fun q => q h)]
  · rw [if_pos (bne_iff_ne.2 h), if_pos h, set_twice (by omega) ⟨by omega, by omega⟩ ⟨by omega, by omega⟩ ⟨by omega, by omega⟩]
def K0 (V : List Int) (S : List (Int × Int)) : Prop := S.length = V.length ∧ ∀ j, j < V.length → S.getD j (0, 0) = vv V j
theorem lv0_law {w : Int} {V : List Int} {l : List Px} (hn : V.length ≤ 80) (hV : SmV V) :
    Term (level_l0_step (w, (V, l))) (level_l0_pre (w, (V, l))) (List.replicate V.length ((0 : Int), (0 : Int)), (0 : Int)) ∧
    K0 V (run (level_l0_step (w, (V, l))) (List.replicate V.length ((0 : Int), (0 : Int)), (0 : Int))) :=
  loop_inv (step := level_l0_step (w, (V, l))) (pre := level_l0_pre (w, (V, l))) (fun s => ∃ i : Nat, s.2 = (i : Int) ∧ i ≤ V.length ∧ s.1.length = V.length ∧ ∀ j, j < V.length → s.1.getD j (0, 0) = if j < i then vv V j else (0, 0)) (fun s => V.length - s.2.toNat) (K0 V)
    (fun s ⟨i, e, hi, hS, hj⟩ => by
      obtain ⟨S, z⟩ := s
      dsimp only at e hS hj
      subst e
      refine ⟨?_, fun s' h => ?_, fun r h => ?_⟩
      · unfold level_l0_pre
        dsimp only [letP]
        intro hlt
        have h1 : (0 : Int) ≤ (i : Int) := by omega
        have h2 : i < V.length := by omega
        have h3 : (i : Int) < (S.length : Int) := by omega
        have h4 : i < S.length := by omega
        simp only [Int.toNat_natCast, List.length_set, h1, hlt, h2, h3, h4, and_self, implies_true]
      · rcases Nat.lt_or_ge i V.length with hlt | hge
        · have hb := hj i hlt
          rw [if_neg (by omega)] at hb
          rw [lv0_step hn hV hS hlt (by rw [hb]; decide)] at h
          cases h
          refine ⟨⟨i + 1, rfl, hlt, by rw [addC_len]; exact hS, fun j hjn => ?_⟩, by simp only [Int.toNat_natCast]; omega⟩
          dsimp only
          rw [addC_get i (by omega), hj j hjn]
          by_cases e : i = j
          · subst e
            rw [if_neg (by omega), if_pos rfl, if_pos (by omega)]
            simp [add2]
          · rw [if_neg e, add2_zero]
            by_cases e2 : j < i
            · rw [if_pos e2, if_pos (by omega)]
            · rw [if_neg e2, if_neg (by omega)]
        · unfold level_l0_step at h
          dsimp only at h
          rw [if_neg (by omega)] at h
          cases h
      · rcases Nat.lt_or_ge i V.length with hlt | hge
        · have hb := hj i hlt
          rw [if_neg (by omega)] at hb
          rw [lv0_step hn hV hS hlt (by rw [hb]; decide)] at h
          cases h
        · unfold level_l0_step at h
          dsimp only at h
          rw [if_neg (by omega)] at h
          cases h
          exact ⟨hS, fun j hjn => by rw [hj j hjn, if_pos (by omega)]⟩) _
    ⟨0, rfl, Nat.zero_le _, by simp, fun j hjn => by
      rw [if_neg (by omega), List.getD_eq_getElem?_getD, List.getElem?_replicate, if_pos hjn]; rfl⟩
/-! ### Pairs -/
def J2 (V : List Int) (w : Int) (l : List Px) (S : List (Int × Int)) : Prop := S.length = V.length ∧ l.all (inB V w) = true ∧ ∀ j, j < V.length → S.getD j (0, 0) = add2 (vv V j) (tot V w l j)
theorem j2_sm {V : List Int} {w : Int} {l : List Px} {S : List (Int × Int)} (hw : 1 ≤ w) (hV : SmV V) (h : J2 V w l S) {j : Nat} (hj : j < V.length) (hl : l.length ≤ 20) :
    0 ≤ (S.getD j (0, 0)).1 ∧ (S.getD j (0, 0)).1 ≤ 255 * (S.getD j (0, 0)).2 ∧ 0 ≤ (S.getD j (0, 0)).2 ∧ (S.getD j (0, 0)).2 ≤ 41 := by
  have a := vv_sm hV hj
  have a' : (vv V j).1 ≤ 255 * (vv V j).2 := by
    have := hV j hj
    unfold vv; split <;> dsimp only <;> omega
  have b := tot_in (lo := 0) (hi := 255) hw (fun k hk h0 => ⟨h0, (hV k hk).2⟩) (fun k hk => (hV k hk).1) j l h.2.1
  rw [h.2.2 j hj]
  unfold add2
  dsimp only
  omega
theorem idx_eq {V : List Int} {w : Int} {p : Int × Int} (hw : 1 ≤ w) (hn : V.length ≤ 80) (h : InP V w p) : w64 (w64 (p.2 * w) + p.1) = p.2 * w + p.1 := by
  have := plc_lt hw h
  have h1 := h.1
  rw [w64_id (n := p.2 * w) (by omega) (by omega), w64_id (by omega) (by omega)]
theorem addC_no {V : List Int} {S : List (Int × Int)} {k m : Nat} (h : V.getD m 0 = -1) : addC V S k m = S := by unfold addC; rw [if_neg (fun q => q h)]
theorem addC_yes {V : List Int} {S : List (Int × Int)} {k m : Nat} (h : V.getD m 0 ≠ -1) : addC V S k m = S.set k (add2 (S.getD k (0, 0)) (V.getD m 0, 1)) := by unfold addC; rw [if_pos h]
def put2 (V : List Int) (w : Int) (S : List (Int × Int)) (pr : Px) : List (Int × Int) := addC V (addC V S (plc w pr.1) (plc w pr.2)) (plc w pr.2) (plc w pr.1)
theorem lv2_step {w : Int} {V : List Int} {l : List Px} (hw : 1 ≤ w) (hn : V.length ≤ 80) (hl : l.length ≤ 20) (hV : SmV V) {S : List (Int × Int)} {i : Nat} {pr : Px} (hx : l[i]? = some pr) (hJ : J2 V w (l.take i) S) :
    level_l2_step (w, (V, l)) (S, (i : Int)) = if inB V w pr = true then .inl (put2 V w S pr, ((i + 1 : Nat) : Int)) else .inr (.inl ()) := by
  have hi := lt_of_get hx
  have hlt : (l.take i).length ≤ 20 := by rw [List.length_take]; omega
  unfold level_l2_step
  dsimp only [letV]
  rw [if_pos (by omega)]
  simp only [Int.toNat_natCast, getD_of hx]
  rw [(lin_law hw hn pr.1).2, (lin_law hw hn pr.2).2]
  unfold inB
  by_cases ha : InP V w pr.1
  · by_cases hb : InP V w pr.2
    · obtain ⟨pa, qa, ra⟩ := plc_lt hw ha
      obtain ⟨pb, qb, rb⟩ := plc_lt hw hb
      have sa := j2_sm hw hV hJ pa hlt
      have sb := j2_sm hw hV hJ pb hlt
      have va := hV _ pa
      have vb := hV _ pb
      have hSl := hJ.1
      simp only [decide_eq_true ha, decide_eq_true hb, Bool.not_true, Bool.false_eq_true, if_false, Bool.and_self, if_true]
      rw [idx_eq hw hn ha, idx_eq hw hn hb]
      have ea : (pr.1.2 * w + pr.1.1).toNat = plc w pr.1 := rfl
      have eb : (pr.2.2 * w + pr.2.1).toNat = plc w pr.2 := rfl
      rw [ea, eb, cnt hi (by omega)]
      unfold put2
      have g1 := addC_get (V := V) (S := S) (plc w pr.2) (k := plc w pr.1) (by omega) (plc w pr.2)
      have vs := vv_sm hV pb
      have hbnd : -1000000 ≤ ((addC V S (plc w pr.1) (plc w pr.2)).getD (plc w pr.2) (0, 0)).1 ∧ ((addC V S (plc w pr.1) (plc w pr.2)).getD (plc w pr.2) (0, 0)).1 ≤ 1000000 ∧ -1000000 ≤ ((addC V S (plc w pr.1) (plc w pr.2)).getD (plc w pr.2) (0, 0)).2 ∧ ((addC V S (plc w pr.1) (plc w pr.2)).getD (plc w pr.2) (0, 0)).2 ≤ 1000000 := by
        rw [g1]; unfold add2; split <;> dsimp only <;> omega
      by_cases h1 : V.getD (plc w pr.2) 0 = -1
      · rw [addC_no (S := S) (k := plc w pr.1) h1, if_neg (by rw [h1]; decide)]
        by_cases h2 : V.getD (plc w pr.1) 0 = -1
        · rw [if_neg (by rw [h2]; decide), addC_no h2]
        · rw [if_pos (bne_iff_ne.2 h2), set_twice (by omega) ⟨by omega, by omega⟩ ⟨by omega, by omega⟩ ⟨by omega, by omega⟩, addC_yes h2]
      · rw [if_pos (bne_iff_ne.2 h1), set_twice (S := S) (k := plc w pr.1) (v := V.getD (plc w pr.2) 0) (by omega) ⟨by omega, by omega⟩ ⟨by omega, by omega⟩ ⟨by omega, by omega⟩, ← addC_yes (S := S) (k := plc w pr.1) h1]
        by_cases h2 : V.getD (plc w pr.1) 0 = -1
        · rw [if_neg (by rw [h2]; decide), addC_no (k := plc w pr.2) h2]
        · rw [if_pos (bne_iff_ne.2 h2), set_twice (by rw [addC_len]; omega) ⟨hbnd.1, hbnd.2.1⟩ ⟨hbnd.2.2.1, hbnd.2.2.2⟩ ⟨by omega, by omega⟩, addC_yes (k := plc w pr.2) h2]
    · simp only [decide_eq_true ha, decide_eq_false hb, Bool.not_true, Bool.not_false, Bool.false_eq_true, if_false, if_true, Bool.and_false]
  · simp only [decide_eq_false ha, Bool.not_false, if_true, Bool.false_and, Bool.false_eq_true, if_false]
theorem put2_J {w : Int} {V : List Int} {l : List Px} (hw : 1 ≤ w) {S : List (Int × Int)} {pr : Px} (hJ : J2 V w l S) (hp : inB V w pr = true) : J2 V w (l ++ [pr]) (put2 V w S pr) := by
  have hp' := hp
  simp only [inB, Bool.and_eq_true, decide_eq_true_eq] at hp'
  have pa := (plc_lt hw hp'.1).1
  have pb := (plc_lt hw hp'.2).1
  obtain ⟨h1, h2, h3⟩ := hJ
  refine ⟨by unfold put2; rw [addC_len, addC_len, h1], by simp [h2, hp], fun j hj => ?_⟩
  unfold put2
  rw [addC_get _ (by rw [addC_len]; omega), addC_get _ (by omega), h3 j hj, tot_append]
  simp only [tot, add2_zero, add2_assoc]
  rfl
def K2 (V : List Int) (w : Int) (l : List Px) (r : Unit ⊕ List (Int × Int)) : Prop := (r = .inl () ∧ l.all (inB V w) = false) ∨ ∃ T, r = .inr T ∧ J2 V w l T
theorem lv2_law {w : Int} {V : List Int} {l : List Px} (hw : 1 ≤ w) (hn : V.length ≤ 80) (hl : l.length ≤ 20) (hV : SmV V) (S : List (Int × Int)) (hS : J2 V w [] S) :
    Term (level_l2_step (w, (V, l))) (level_l2_pre (w, (V, l))) (S, (0 : Int)) ∧
    K2 V w l (run (level_l2_step (w, (V, l))) (S, (0 : Int))) :=
  loop_inv (step := level_l2_step (w, (V, l))) (pre := level_l2_pre (w, (V, l))) (fun s => ∃ i : Nat, s.2 = (i : Int) ∧ i ≤ l.length ∧ J2 V w (l.take i) s.1) (fun s => l.length - s.2.toNat) (K2 V w l)
    (fun s ⟨i, e, hi, hJ⟩ => by
      obtain ⟨S, z⟩ := s
      dsimp only at e hJ
      subst e
      refine ⟨?_, fun s' h => ?_, fun r h => ?_⟩
      · unfold level_l2_pre
        dsimp only [letP]
        intro hlt
        have hlt' : i < l.length := by omega
        have h1 : (0 : Int) ≤ (i : Int) := by omega
        have hx := List.getElem?_eq_getElem hlt'
        simp only [Int.toNat_natCast, getD_of hx]
        generalize l[i] = pr at hx
        rw [(lin_law hw hn pr.1).2, (lin_law hw hn pr.2).2]
        have k1 := (lin_law hw hn pr.1).1
        have k2 := (lin_law hw hn pr.2).1
        by_cases ha : InP V w pr.1
        · by_cases hb : InP V w pr.2
          · obtain ⟨pa, qa, ra⟩ := plc_lt hw ha
            obtain ⟨pb, qb, rb⟩ := plc_lt hw hb
            have ha1 := ha.1
            have hb1 := hb.1
            rw [idx_eq hw hn ha, idx_eq hw hn hb]
            have ea : (pr.1.2 * w + pr.1.1).toNat = plc w pr.1 := rfl
            have eb : (pr.2.2 * w + pr.2.1).toNat = plc w pr.2 := rfl
            rw [ea, eb]
            have hSl := hJ.1
            have m1 : (0 : Int) ≤ pr.1.2 * w + pr.1.1 := by omega
            have m2 : (0 : Int) ≤ pr.2.2 * w + pr.2.1 := by omega
            have m3 : pr.1.2 * w + pr.1.1 < (S.length : Int) := by omega
            have m4 : pr.2.2 * w + pr.2.1 < (S.length : Int) := by omega
            have m5 : plc w pr.1 < S.length := by omega
            have m6 : plc w pr.2 < S.length := by omega
            simp only [List.length_set, h1, hlt, hlt', k1, k2, pa, pb, ra, rb, m1, m2, m3, m4, m5, m6, and_self, implies_true]
          · simp only [h1, hlt, hlt', k1, k2, decide_eq_true ha, decide_eq_false hb, Bool.not_true, Bool.not_false, not_true, Bool.false_eq_true, not_false_iff, true_implies, false_implies, and_self, implies_true]
        · simp only [h1, hlt, hlt', k1, decide_eq_false ha, Bool.not_false, not_true, false_implies, and_self]
      · rcases Nat.lt_or_ge i l.length with hlt | hge
        · have hx := List.getElem?_eq_getElem hlt
          rw [lv2_step hw hn hl hV hx hJ] at h
          split at h
          · rename_i hin
            cases h
            refine ⟨⟨i + 1, rfl, hlt, ?_⟩, by simp only [Int.toNat_natCast]; omega⟩
            rw [List.take_succ_eq_append_getElem hlt]
            exact put2_J hw hJ hin
          · cases h
        · unfold level_l2_step at h
          dsimp only at h
          rw [if_neg (by omega)] at h
          cases h
      · rcases Nat.lt_or_ge i l.length with hlt | hge
        · have hx := List.getElem?_eq_getElem hlt
          rw [lv2_step hw hn hl hV hx hJ] at h
          split at h
          · cases h
          · rename_i hin
            cases h
            refine .inl ⟨rfl, ?_⟩
            rw [← Bool.not_eq_true, List.all_eq_true]
            exact fun q => hin (q _ (List.getElem_mem hlt))
        · unfold level_l2_step at h
          dsimp only at h
          rw [if_neg (by omega)] at h
          cases h
          have : i = l.length := by omega
          subst this
          rw [List.take_length] at hJ
          exact .inr ⟨S, rfl, hJ⟩) _ ⟨0, rfl, Nat.zero_le _, hS⟩
/-! ### Level -/
theorem LV_len (w : Int) (V : List Int) (l : List Px) : (LV w V l).length = V.length := by simp [LV]
theorem LV_get (w : Int) (V : List Int) (l : List Px) {j : Nat} (hj : j < V.length) : (LV w V l).getD j 0 = lv1 V w l j := by
  rw [List.getD_eq_getElem?_getD, LV, List.getElem?_map, List.getElem?_range hj]; rfl
def H4 (V : List Int) (w : Int) (l : List Px) (i : Nat) : List Int := (LV w V l).take i ++ V.drop i
theorem H4_len (V : List Int) (w : Int) (l : List Px) {i : Nat} (hi : i ≤ V.length) : (H4 V w l i).length = V.length := by
  unfold H4; rw [List.length_append, List.length_take, List.length_drop, LV_len]; omega
theorem H4_succ (V : List Int) (w : Int) (l : List Px) {i : Nat} (hi : i < V.length) : H4 V w l (i + 1) = (H4 V w l i).set i (lv1 V w l i) := by
  have h1 : i < (LV w V l).length := by rw [LV_len]; exact hi
  unfold H4
  rw [List.take_succ_eq_append_getElem h1, List.drop_eq_getElem_cons hi, List.set_append_right _ _ (by rw [List.length_take]; omega)]
  have e : i - ((LV w V l).take i).length = 0 := by rw [List.length_take, LV_len]; omega
  rw [e, List.set_cons_zero, List.append_assoc]
  congr 2
  have := LV_get w V l hi
  rw [List.getD_eq_getElem?_getD, List.getElem?_eq_getElem h1] at this
  simp only [List.singleton_append, List.cons.injEq, and_true]
  exact this
theorem lv4_law {w : Int} {V : List Int} {l : List Px} (hw : 1 ≤ w) (hn : V.length ≤ 80) (hl : l.length ≤ 20) (hV : SmV V) (S : List (Int × Int)) (hJ : J2 V w l S) :
    Term (level_l4_step (w, (V, l))) (level_l4_pre (w, (V, l))) (S, (V, (0 : Int))) ∧ (fun r => r = LV w V l) (run (level_l4_step (w, (V, l))) (S, (V, (0 : Int)))) :=
  loop_inv (step := level_l4_step (w, (V, l))) (pre := level_l4_pre (w, (V, l))) (fun s => ∃ i : Nat, s.2.2 = (i : Int) ∧ i ≤ V.length ∧ s.1 = S ∧ s.2.1 = H4 V w l i) (fun s => V.length - s.2.2.toNat) (fun r => r = LV w V l)
    (fun s ⟨i, e, hi, hS, hH⟩ => by
      obtain ⟨S', H, z⟩ := s
      dsimp only at e hS hH
      subst e
      subst hS
      subst hH
      have hHl := H4_len V w l hi
      have hSl := hJ.1
      have hstep : i < V.length → level_l4_step (w, (V, l)) (S', (H4 V w l i, (i : Int))) = .inl (S', (H4 V w l (i + 1), ((i + 1 : Nat) : Int))) := fun hlt => by
        have hs := j2_sm hw hV hJ hlt hl
        have hv := hV i hlt
        rw [H4_succ V w l hlt]
        unfold level_l4_step
        dsimp only [letV]
        rw [if_pos (by omega)]
        simp only [Int.toNat_natCast]
        rw [cnt hlt (by omega)]
        have hJi := hJ.2.2 i hlt
        by_cases h : V.getD i 0 = -1
        · rw [if_neg (by rw [h]; decide)]
          have e1 : lv1 V w l i = (H4 V w l i).getD i 0 := by
            unfold lv1
            rw [if_pos h]
            unfold H4
            rw [List.getD_eq_getElem?_getD, List.getElem?_append_right (by rw [List.length_take]; omega)]
            have e : i - ((LV w V l).take i).length = 0 := by rw [List.length_take, LV_len]; omega
            rw [e, List.getElem?_drop, Nat.add_zero, ← List.getD_eq_getElem?_getD, h]
          rw [e1, List.getD_eq_getElem?_getD, List.getElem?_eq_getElem (by omega)]
          simp
        · rw [if_pos (bne_iff_ne.2 h)]
          have e1 : lv1 V w l i = (S'.getD i (0, 0)).1 / (S'.getD i (0, 0)).2 := by
            unfold lv1
            rw [if_neg h, hJi]
          rw [e1, Int.tdiv_eq_ediv_of_nonneg hs.1]
          have q1 : 0 ≤ (S'.getD i (0, 0)).1 / (S'.getD i (0, 0)).2 := Int.ediv_nonneg hs.1 hs.2.2.1
          have q2 : (S'.getD i (0, 0)).1 / (S'.getD i (0, 0)).2 ≤ (S'.getD i (0, 0)).1 := Int.ediv_le_self _ hs.1
          rw [w64_id (by omega) (by omega)]
      refine ⟨?_, fun s' h => ?_, fun r h => ?_⟩
      · unfold level_l4_pre
        dsimp only
        intro hlt
        have h1 : (0 : Int) ≤ (i : Int) := by omega
        have h2 : i < V.length := by omega
        have h3 : (i : Int) < (S'.length : Int) := by omega
        have h4 : i < S'.length := by omega
        have h5 : (i : Int) < ((H4 V w l i).length : Int) := by omega
        have h6 : i < (H4 V w l i).length := by omega
        simp only [Int.toNat_natCast, h1, hlt, h2, h3, h4, h5, h6, and_self, and_true, true_and]
        intro hne
        have hne : V.getD i 0 ≠ -1 := bne_iff_ne.1 hne
        have hb := tot_in (lo := 0) (hi := 255) hw (fun k hk h0 => ⟨h0, (hV k hk).2⟩) (fun k hk => (hV k hk).1) i l hJ.2.1
        have hv : (vv V i).2 = 1 := by unfold vv; rw [if_neg hne]
        rw [hJ.2.2 i h2]
        unfold add2
        dsimp only
        omega
      · rcases Nat.lt_or_ge i V.length with hlt | hge
        · rw [hstep hlt] at h
          cases h
          exact ⟨⟨i + 1, rfl, hlt, rfl, rfl⟩, by simp only [Int.toNat_natCast]; omega⟩
        · unfold level_l4_step at h
          dsimp only at h
          rw [if_neg (by omega)] at h
          cases h
      · rcases Nat.lt_or_ge i V.length with hlt | hge
        · rw [hstep hlt] at h; cases h
        · unfold level_l4_step at h
          dsimp only at h
          rw [if_neg (by omega)] at h
          cases h
          have : i = V.length := by omega
          subst this
          unfold H4
          rw [List.drop_length, List.append_nil, List.take_of_length_le (by rw [LV_len]; omega)]) _ ⟨0, rfl, Nat.zero_le _, rfl, by simp [H4]⟩
theorem level_law (w : Int) (V : List Int) (l : List Px) (hn : V.length ≤ 80) (hl : l.length ≤ 20) : level_pre (w, (V, l)) ∧ level (w, (V, l)) = if lvOk w V l = true then (LV w V l, 0) else ([], 1) := by
  have hc := containsL_law V (by omega)
  unfold level_pre level lvOk
  dsimp only [letP, letV]
  by_cases h1 : w < 1
  · refine ⟨fun h => absurd h1 h, ?_⟩
    rw [if_pos h1, decide_eq_false (p := 1 ≤ w) (by omega)]; simp
  by_cases h2 : w > 256
  · refine ⟨fun _ h => absurd h2 h, ?_⟩
    rw [if_neg h1, if_pos h2, decide_eq_false (p := w ≤ 256) (by omega)]; simp
  have em : Int.tmod (V.length : Int) w = (V.length : Int) % w := Int.tmod_eq_emod_of_nonneg (by omega)
  have ew : w64 (w * 256) = w * 256 := w64_id (by omega) (by omega)
  rw [if_neg h1, if_neg h2, em, ew, hc.2, decide_eq_true (p := 1 ≤ w) (by omega), decide_eq_true (p := w ≤ 256) (by omega)]
  by_cases h3 : (V.length : Int) % w = 0
  rotate_left
  · refine ⟨fun _ _ => ⟨by omega, fun h => absurd (bne_iff_ne.2 h3) h⟩, ?_⟩
    rw [if_pos (bne_iff_ne.2 h3), decide_eq_false h3]; simp
  by_cases h4 : (V.length : Int) > w * 256
  · refine ⟨fun _ _ => ⟨by omega, fun _ h => absurd h4 h⟩, ?_⟩
    rw [if_neg (by rw [h3]; decide), if_pos h4, decide_eq_true h3, decide_eq_false (p := (V.length : Int) ≤ w * 256) (by omega)]; simp
  rw [if_neg (by rw [h3]; decide), if_neg h4, decide_eq_true h3, decide_eq_true (p := (V.length : Int) ≤ w * 256) (by omega)]
  cases h5 : V.all fun v => decide (-1 ≤ v) && decide (v ≤ 255) with
  | false =>
    refine ⟨fun _ _ => ⟨by omega, fun _ _ => ⟨hc.1, fun h => absurd (by simp) h⟩⟩, ?_⟩
    simp
  | true =>
    have hV := smV_of h5
    have hw : 1 ≤ w := by omega
    obtain ⟨t0, k0⟩ := lv0_law (w := w) (l := l) hn hV
    have hJ0 : J2 V w [] (run (level_l0_step (w, (V, l))) (List.replicate V.length ((0 : Int), (0 : Int)), (0 : Int))) := ⟨k0.1, rfl, fun j hj => by rw [k0.2 j hj]; simp [tot, add2_zero]⟩
    generalize run (level_l0_step (w, (V, l))) (List.replicate V.length ((0 : Int), (0 : Int)), (0 : Int)) = S0 at hJ0 ⊢
    obtain ⟨t2, k2⟩ := lv2_law hw hn hl hV S0 hJ0
    rcases k2 with ⟨e, ha⟩ | ⟨T, e, hT⟩
    · rw [e, ha]
      exact ⟨fun _ _ => ⟨by omega, fun _ _ => ⟨hc.1, fun _ => ⟨⟨by omega, by omega⟩, t0, t2, trivial⟩⟩⟩, by simp⟩
    · rw [e, hT.2.1]
      obtain ⟨t4, k4⟩ := lv4_law hw hn hl hV T hT
      refine ⟨fun _ _ => ⟨by omega, fun _ _ => ⟨hc.1, fun _ => ⟨⟨by omega, by omega⟩, t0, t2, cloneI_tm V (by omega), t4⟩⟩⟩, ?_⟩
      have k4' : run (level_l4_step (w, (V, l))) (T, (V, (0 : Int))) = LV w V l := k4
      simp only [Bool.not_true, Bool.false_eq_true, if_false, Sum.elim_inr, Bool.and_self, if_true]
      unfold cloneI
      rw [k4']
end Go.Proofs.YtojielnkfeoccaaGreat
