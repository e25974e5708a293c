/- SeamAlong, SeamBetween, SeamRound: the law functions answer true, whatever their input. -/
import Derived.Test.YtojielnkfeoccaaGreatSe
namespace Go.Proofs.YtojielnkfeoccaaGreat
open Go Go.Ev Go.Proofs
theorem leveled_law (x : Bool) : leveled_pre x ∧ leveled x = true := by
  have a1 := level_law 3 [10, -1, 20, 5, 5, 5] [((0, 0), (2, 0)), ((0, 0), (1, 0))] (by decide) (by decide)
  have a2 := level_law 3 [10, -1] [((0, 0), (2, 0)), ((0, 0), (1, 0))] (by decide) (by decide)
  have a3 := along_law (0, 0) (9, -9) 4
  have e1 : (if lvOk 3 [10, -1, 20, 5, 5, 5] [((0, 0), (2, 0)), ((0, 0), (1, 0))] = true then (LV 3 [10, -1, 20, 5, 5, 5] [((0, 0), (2, 0)), ((0, 0), (1, 0))], (0 : Int)) else ([], 1)) = ([15, -1, 15, 5, 5, 5], 0) := by decide
  have e2 : (if lvOk 3 [10, -1] [((0, 0), (2, 0)), ((0, 0), (1, 0))] = true then (LV 3 [10, -1] [((0, 0), (2, 0)), ((0, 0), (1, 0))], (0 : Int)) else ([], 1)) = ([], 1) := by decide
  have e3 : (if Sm (0, 0) ∧ Sm (9, -9) ∧ (0 : Int) ≤ 4 ∧ (4 : Int) ≤ 8 then ((Alo 0 9 4, Alo 0 (-9) 4), (0 : Int)) else ((0, 0), 5)) = ((4, -5), 0) := by decide
  have h1 := a1.2.trans e1
  have h2 := a2.2.trans e2
  have h3 := a3.2.trans e3
  have hs := r1same_law [15, -1, 15, 5, 5, 5] [15, -1, 15, 5, 5, 5] (by decide)
  refine ⟨⟨a1.1, a2.1, a3.1, fun _ => ?_⟩, ?_⟩
  · rw [h1]; exact hs.1
  · unfold leveled
    dsimp only [letV]
    rw [h1, h2, h3, hs.2.2 rfl]
    rfl
theorem lalong_law (x : (Int × Int) × ((Int × Int) × Int)) : l27along_pre x ∧ l27along x = true := by
  obtain ⟨a, b, s⟩ := x
  have hl := leveled_law false
  refine ⟨⟨(along_law a b s).1, fun _ => hl.1, fun _ => ⟨(along_law a b 0).1, (along_law a b 8).1, (along_law a a s).1, hl.1⟩⟩, ?_⟩
  unfold l27along
  dsimp only [letV]
  rw [(along_law a b s).2, (along_law a b 0).2, (along_law a b 8).2, (along_law a a s).2, hl.2]
  by_cases h : Sm a ∧ Sm b ∧ 0 ≤ s ∧ s ≤ 8
  · rw [if_pos h, if_pos (⟨h.1, h.2.1, by decide, by decide⟩ : Sm a ∧ Sm b ∧ (0 : Int) ≤ 0 ∧ (0 : Int) ≤ 8), if_pos (⟨h.1, h.2.1, by decide, by decide⟩ : Sm a ∧ Sm b ∧ (0 : Int) ≤ 8 ∧ (8 : Int) ≤ 8), if_pos (⟨h.1, h.1, h.2.2⟩ : Sm a ∧ Sm a ∧ 0 ≤ s ∧ s ≤ 8)]
    have i1 := alo_in a.1 b.1 s h.2.2.1 h.2.2.2
    have i2 := alo_in a.2 b.2 s h.2.2.1 h.2.2.2
    simp only [alo_0, alo_8, alo_same, bne_self_eq_false, Bool.false_eq_true, if_false, beq_self_eq_true, Bool.and_self, if_true]
    rw [if_pos i1.1, if_pos i1.2, if_pos i2.1]
    exact decide_eq_true i2.2
  · rw [if_neg h, if_pos (by decide)]
    rfl
theorem lround_law (x : Int × (List Int × List Px)) : l27round_pre x ∧ l27round x = true := by
  obtain ⟨w, V, l⟩ := x
  have hl := leveled_law false
  unfold l27round_pre l27round
  dsimp only [letP, letV]
  by_cases h1 : (V.length : Int) > 80
  · exact ⟨fun h => absurd h1 h, by rw [if_pos h1]⟩
  by_cases h2 : (l.length : Int) > 20
  · exact ⟨fun _ h => absurd h2 h, by rw [if_neg h1, if_pos h2]⟩
  rw [if_neg h1, if_neg h2]
  have hn : V.length ≤ 80 := by omega
  have hn2 : l.length ≤ 20 := by omega
  have start : w64 ((l.length : Int) - 1) = (l.length : Int) - 1 := w64_id (by omega) (by omega)
  rw [start]
  obtain ⟨t0, k0⟩ := loop_inv (step := l27round_l0_step (w, (V, l))) (pre := l27round_l0_pre (w, (V, l))) (fun s => ∃ i : Nat, s.2 = (i : Int) - 1 ∧ i ≤ l.length ∧ s.1 = ((l.drop i).map Prod.swap).reverse) (fun s => (s.2 + 1).toNat) (fun r => r = (l.map Prod.swap).reverse)
    (fun s ⟨i, e, hi, hs⟩ => by
      obtain ⟨S, z⟩ := s
      dsimp only at e hs
      subst e
      subst hs
      have hstep : 0 < i → l27round_l0_step (w, (V, l)) (((l.drop i).map Prod.swap).reverse, (i : Int) - 1) = .inl (((l.drop (i - 1)).map Prod.swap).reverse, ((i - 1 : Nat) : Int) - 1) := fun hi0 => by
        unfold l27round_l0_step
        dsimp only
        rw [if_pos (by omega)]
        have e1 : ((i : Int) - 1).toNat = i - 1 := by omega
        rw [e1, w64_id (by omega) (by omega)]
        have hlt : i - 1 < l.length := by omega
        rw [List.drop_eq_getElem_cons hlt, show i - 1 + 1 = i by omega]
        simp only [List.map_cons, List.reverse_cons, List.getD_eq_getElem?_getD, List.getElem?_eq_getElem hlt, Option.getD_some]
        congr 2
        omega
      refine ⟨?_, fun s' h => ?_, fun r h => ?_⟩
      · unfold l27round_l0_pre
        dsimp only
        intro h0
        have e1 : ((i : Int) - 1).toNat = i - 1 := by omega
        rw [e1]
        have h3 : ((i : Int) - 1) < (l.length : Int) := by omega
        have h4 : i - 1 < l.length := by omega
        have h5 : (0 : Int) ≤ (i : Int) - 1 := h0
        simp only [h3, h4, h5, and_self, true_and, List.length_reverse, List.length_map, List.length_drop]
        omega
      · rcases Nat.eq_zero_or_pos i with e | hpos
        · subst e
          unfold l27round_l0_step at h
          dsimp only at h
          rw [if_neg (by omega)] at h
          cases h
        · rw [hstep hpos] at h
          cases h
          exact ⟨⟨i - 1, rfl, by omega, rfl⟩, by dsimp only; omega⟩
      · rcases Nat.eq_zero_or_pos i with e | hpos
        · subst e
          unfold l27round_l0_step at h
          dsimp only at h
          rw [if_neg (by omega)] at h
          cases h
          rfl
        · rw [hstep hpos] at h; cases h) ([], (l.length : Int) - 1) ⟨l.length, rfl, Nat.le_refl _, by simp⟩
  have hrl : ((l.map Prod.swap).reverse).length ≤ 20 := by simpa using hn2
  rw [k0]
  have a1 := level_law w V l hn hn2
  have a2 := level_law w V ((l.map Prod.swap).reverse) hn hrl
  have a3 := level_law w V [] hn (by simp)
  -- as many, in another order
  have hcs : ∀ pr j, con V w (Prod.swap pr) j = con V w pr j := fun pr j => by
    unfold con; rw [add2_comm]; rfl
  have ht : ∀ (l : List Px) (j : Nat), tot V w ((l.map Prod.swap).reverse) j = tot V w l j := by
    intro l j
    induction l with
    | nil => rfl
    | cons p r ih => rw [List.map_cons, List.reverse_cons, tot_append, ih, tot, tot, tot, add2_zero, hcs, add2_comm]
  have hb : ∀ pr, inB V w (Prod.swap pr) = inB V w pr := fun pr => by unfold inB; rw [Bool.and_comm]; rfl
  have hok : lvOk w V ((l.map Prod.swap).reverse) = lvOk w V l := by
    unfold lvOk
    congr 1
    rw [List.all_reverse, List.all_map]
    congr 1
    exact funext hb
  have hLV : LV w V ((l.map Prod.swap).reverse) = LV w V l := by
    unfold LV
    refine List.map_congr_left fun j _ => ?_
    unfold lv1
    rw [ht]
  have hok0 : lvOk w V l = true → lvOk w V [] = true := fun h => by
    unfold lvOk at h ⊢
    rw [Bool.and_eq_true] at h
    rw [h.1]; rfl
  have hLV0 : lvOk w V l = true → LV w V [] = V := fun h => by
    have hV : SmV V := by
      unfold lvOk at h
      simp only [Bool.and_eq_true] at h
      exact smV_of h.1.2
    refine List.ext_getElem (by rw [LV_len]) fun j h1 h2 => ?_
    have e := LV_get w V [] h2
    rw [List.getD_eq_getElem?_getD, List.getElem?_eq_getElem h1] at e
    rw [show (LV w V [])[j] = lv1 V w [] j from e]
    have e2 : V.getD j 0 = V[j] := by rw [List.getD_eq_getElem?_getD, List.getElem?_eq_getElem h2]; rfl
    unfold lv1 vv
    rw [e2]
    split
    · rename_i q; exact q.symm
    · simp [tot, add2]
  rw [hok, hLV] at a2
  rw [a1.2, a2.2, a3.2, hl.2]
  have s1 : ∀ a b : List Int, a.length ≤ 80 → r1same_pre (a, b) := fun a b h => (r1same_law a b (by omega)).1
  cases hk : lvOk w V l with
  | true =>
    rw [hok0 hk, hLV0 hk]
    have e1 := (r1same_law (LV w V l) (LV w V l) (by rw [LV_len]; omega)).2.2 rfl
    have e2 := (r1same_law V V (by omega)).2.2 rfl
    refine ⟨fun _ _ => ⟨t0, a1.1, a2.1, a3.1, hl.1, fun _ _ => ⟨s1 _ _ (by simp [LV_len, hn]), fun _ _ _ => s1 _ _ (by simpa using hn)⟩⟩, ?_⟩
    simp only [if_true, beq_self_eq_true, e1, e2, bne_self_eq_false, Bool.false_eq_true, if_false]
  | false =>
    have e1 := (r1same_law ([] : List Int) [] (by decide)).2.2 rfl
    refine ⟨fun _ _ => ⟨t0, a1.1, a2.1, a3.1, hl.1, fun _ _ => ⟨s1 _ _ (by simp), fun _ h => absurd (by simp) h⟩⟩, ?_⟩
    simp only [Bool.false_eq_true, if_false, if_true, beq_self_eq_true, e1]
    rfl

/-! ### Between -/
theorem lv1_in {V : List Int} {w lo hi : Int} {l : List Px} (hw : 1 ≤ w) (hV : SmV V) (hl : l.all (inB V w) = true) (h : ∀ k, k < V.length → 0 ≤ V.getD k 0 → lo ≤ V.getD k 0 ∧ V.getD k 0 ≤ hi) {j : Nat} (hj : j < V.length) (h0 : 0 ≤ V.getD j 0) :
    lo ≤ lv1 V w l j ∧ lv1 V w l j ≤ hi := by
  have hb := tot_in hw h (fun k hk => (hV k hk).1) j l hl
  have hv := h j hj h0
  have hne : V.getD j 0 ≠ -1 := by omega
  unfold lv1 vv
  rw [if_neg hne, if_neg hne]
  unfold add2
  dsimp only
  generalize V.getD j 0 = v at *
  generalize tot V w l j = t at *
  obtain ⟨s, c⟩ := t
  dsimp only at hb ⊢
  have e1 : lo * (1 + c) = lo + lo * c := by rw [Int.mul_add, Int.mul_one]
  have e2 : hi * (1 + c) = hi + hi * c := by rw [Int.mul_add, Int.mul_one]
  exact ⟨Int.le_ediv_of_mul_le (by omega) (by omega), Int.ediv_le_of_le_mul (by omega) (by omega)⟩
theorem lbetween_law (x : Int × (List Int × List Px)) : l27between_pre x ∧ l27between x = true := by
  obtain ⟨w, V, l⟩ := x
  have hl := leveled_law false
  unfold l27between_pre l27between
  dsimp only [letP, letV]
  by_cases h1 : (V.length : Int) > 80
  · exact ⟨fun h => absurd h1 h, by rw [if_pos h1]⟩
  by_cases h2 : (l.length : Int) > 20
  · exact ⟨fun _ h => absurd h2 h, by rw [if_neg h1, if_pos h2]⟩
  rw [if_neg h1, if_neg h2]
  have hn : V.length ≤ 80 := by omega
  have hn2 : l.length ≤ 20 := by omega
  have a1 := level_law w V l hn hn2
  rw [a1.2, hl.2]
  cases hk : lvOk w V l with
  | false =>
    exact ⟨fun _ _ => ⟨a1.1, fun _ => hl.1, fun h => absurd (by simp) h⟩, by simp⟩
  | true =>
    have hk' := hk
    unfold lvOk at hk'
    simp only [Bool.and_eq_true, decide_eq_true_eq] at hk'
    have hw : 1 ≤ w := hk'.1.1.1.1.1
    have hV := smV_of hk'.1.2
    have hin := hk'.2
    have hLl := LV_len w V l
    simp only [if_true]
    obtain ⟨t0, k0⟩ := loop_inv (step := l27between_l0_step (w, (V, l))) (pre := l27between_l0_pre (w, (V, l))) (fun s => ∃ i : Nat, s.2.2.2 = (i : Int) ∧ i ≤ V.length ∧ s.1 = LV w V l ∧ ∀ k, k < i → 0 ≤ V.getD k 0 → s.2.1 ≤ V.getD k 0 ∧ V.getD k 0 ≤ s.2.2.1) (fun s => V.length - s.2.2.2.toNat)
      (fun r => r.1 = LV w V l ∧ ∀ k, k < V.length → 0 ≤ V.getD k 0 → r.2.1 ≤ V.getD k 0 ∧ V.getD k 0 ≤ r.2.2)
      (fun s ⟨i, e, hi, hs, hb⟩ => by
        obtain ⟨S, lo, hi', z⟩ := s
        dsimp only at e hs hb
        subst e
        subst hs
        refine ⟨?_, fun s' h => ?_, fun r h => ?_⟩
        · unfold l27between_l0_pre
          dsimp only
          intro hlt
          have h3 : (0 : Int) ≤ (i : Int) := by omega
          have h4 : i < V.length := by omega
          simp only [Int.toNat_natCast, hlt, h3, h4, and_self, implies_true]
        · unfold l27between_l0_step at h
          dsimp only at h
          split at h
          · rename_i hlt
            have hlt : i < V.length := by omega
            simp only [Int.toNat_natCast] at h
            rw [cnt hlt (by omega)] at h
            split at h
            · rename_i hv
              cases h
              refine ⟨⟨i + 1, rfl, hlt, rfl, fun k hk h0 => ?_⟩, by simp only [Int.toNat_natCast]; omega⟩
              dsimp only
              by_cases e : k = i
              · subst e
                unfold minI maxI
                split <;> split <;> omega
              · have := hb k (by omega) h0
                unfold minI maxI
                split <;> split <;> omega
            · rename_i hv
              cases h
              refine ⟨⟨i + 1, rfl, hlt, rfl, fun k hk h0 => ?_⟩, by simp only [Int.toNat_natCast]; omega⟩
              by_cases e : k = i
              · subst e; omega
              · exact hb k (by omega) h0
          · cases h
        · unfold l27between_l0_step at h
          dsimp only at h
          split at h
          · split at h <;> cases h
          · cases h
            exact ⟨rfl, fun k hk h0 => hb k (by omega) h0⟩) (LV w V l, ((255 : Int), ((0 : Int), (0 : Int)))) ⟨0, rfl, Nat.zero_le _, rfl, fun k hk => absurd hk (by omega)⟩
    generalize run (l27between_l0_step (w, (V, l))) (LV w V l, ((255 : Int), ((0 : Int), (0 : Int)))) = r at k0 ⊢
    obtain ⟨R, lo, hi⟩ := r
    dsimp only at k0 ⊢
    obtain ⟨e, hb⟩ := k0
    subst e
    have hlen : ¬ ((((LV w V l).length : Nat) : Int) != ((V.length : Nat) : Int)) = true := by rw [hLl]; simp
    have hval : ∀ j, j < V.length → (LV w V l).getD j 0 = -1 ∧ V.getD j 0 = -1 ∨ 0 ≤ V.getD j 0 ∧ lo ≤ (LV w V l).getD j 0 ∧ (LV w V l).getD j 0 ≤ hi ∧ 0 ≤ (LV w V l).getD j 0 := fun j hj => by
      rw [LV_get w V l hj]
      have hv := hV j hj
      by_cases h : V.getD j 0 = -1
      · refine .inl ⟨?_, h⟩
        unfold lv1; rw [if_pos h]
      · have q := lv1_in hw hV hin hb hj (by omega)
        have q2 := lv1_in (lo := 0) (hi := 255) hw hV hin (fun k hk h0 => ⟨h0, (hV k hk).2⟩) hj (by omega)
        exact .inr ⟨by omega, q.1, q.2, q2.1⟩
    obtain ⟨t2, k2⟩ := loop_inv (step := l27between_l2_step (w, (V, l))) (pre := l27between_l2_pre (w, (V, l))) (fun s => ∃ i : Nat, s = (LV w V l, (lo, (hi, (i : Int)))) ∧ i ≤ V.length) (fun s => V.length - s.2.2.2.toNat)
      (fun r => r = .inr (LV w V l, (lo, hi)))
      (fun s ⟨i, e, hi'⟩ => by
        subst e
        have hstep : i < V.length → l27between_l2_step (w, (V, l)) (LV w V l, (lo, (hi, (i : Int)))) = .inl (LV w V l, (lo, (hi, ((i + 1 : Nat) : Int)))) := fun hlt => by
          unfold l27between_l2_step
          dsimp only
          rw [if_pos (by omega)]
          simp only [Int.toNat_natCast]
          rw [cnt hlt (by omega)]
          rcases hval i hlt with ⟨q1, q2⟩ | ⟨q1, q2, q3, q4⟩
          · rw [decide_eq_true (p := (LV w V l).getD i 0 < 0) (by omega), decide_eq_true (p := V.getD i 0 < 0) (by omega), if_neg (by decide), if_neg (by omega), if_neg (by omega)]
          · rw [decide_eq_false (p := (LV w V l).getD i 0 < 0) (by omega), decide_eq_false (p := V.getD i 0 < 0) (by omega), if_neg (by decide), if_neg (by omega), if_pos q4, if_neg (by omega), if_neg (by omega)]
        refine ⟨?_, fun s' h => ?_, fun r h => ?_⟩
        · unfold l27between_l2_pre
          dsimp only
          intro hlt
          have h3 : (0 : Int) ≤ (i : Int) := by omega
          have h4 : i < V.length := by omega
          have h5 : i < (LV w V l).length := by omega
          have h6 : (i : Int) < (V.length : Int) := by omega
          simp only [Int.toNat_natCast, hlt, h3, h4, h5, h6, and_self, implies_true]
        · rcases Nat.lt_or_ge i V.length with hlt | hge
          · rw [hstep hlt] at h
            cases h
            exact ⟨⟨i + 1, rfl, hlt⟩, by simp only [Int.toNat_natCast]; omega⟩
          · unfold l27between_l2_step at h
            dsimp only at h
            rw [if_neg (by omega)] at h
            cases h
        · rcases Nat.lt_or_ge i V.length with hlt | hge
          · rw [hstep hlt] at h; cases h
          · unfold l27between_l2_step at h
            dsimp only at h
            rw [if_neg (by omega)] at h
            cases h
            rfl) (LV w V l, (lo, (hi, (0 : Int)))) ⟨0, rfl, Nat.zero_le _⟩
    rw [k2]
    have s1 := r1same_law (LV w V l) V (by omega)
    refine ⟨fun _ _ => ⟨a1.1, fun h => absurd h (by decide), fun _ => ⟨t0, fun _ => ⟨t2, hl.1, fun _ _ => s1.1⟩⟩⟩, ?_⟩
    rw [if_neg (by decide), if_neg hlen]
    simp only [Sum.elim_inr, if_true]
    by_cases hne : lo = hi
    · rw [if_neg (by simp [hne])]
      refine s1.2.2 (List.ext_getElem hLl fun j g1 g2 => ?_)
      have e1 : (LV w V l).getD j 0 = (LV w V l)[j] := by rw [List.getD_eq_getElem?_getD, List.getElem?_eq_getElem g1]; rfl
      have e2 : V.getD j 0 = V[j] := by rw [List.getD_eq_getElem?_getD, List.getElem?_eq_getElem g2]; rfl
      have := hval j g2
      rw [e1, e2] at this
      have hb' := hb j g2
      rw [e2] at hb'
      omega
    · rw [if_pos (bne_iff_ne.2 hne)]
end Go.Proofs.YtojielnkfeoccaaGreat
