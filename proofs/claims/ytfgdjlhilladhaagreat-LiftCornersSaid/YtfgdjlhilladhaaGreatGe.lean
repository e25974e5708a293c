/- Plain laws: samples. -/
import Derived.Test.YtfgdjlhilladhaaGreatGd
import Derived.Test.YtfgdjlhilladhaaGreatLb
namespace Go.Proofs.YtfgdjlhilladhaaGreat
open Go Go.Ev Go.Proofs
set_option linter.unusedVariables false
set_option linter.unusedSimpArgs false
abbrev Arg : Type := Msh × Atl
abbrev Smp : Type := Int × (Int × (Int × P3))
abbrev zS : Smp := (0, (0, (0, (0, (0, 0)))))
/-! ### Places -/
theorem lodd_law (i : Int) (m : Msh) : lodd (i, m) = true ↔ ¬ Has m i := by
  unfold lodd Has
  dsimp only
  by_cases h : i < 0
  · rw [if_pos h]; simp only [true_iff]; omega
  · rw [if_neg h, decide_eq_true_eq]; omega
theorem containsO_law (l : List Int) (hl : l.length < 4611686018427387904) (m : Msh) : containsO_pre (l, m) ∧ containsO (l, m) = l.any fun o => lodd (o, m) := by
  have h := index_loop l hl (fun o => lodd (o, m)) (indexO_l0_step (l, m)) (indexO_l0_pre (l, m)) (fun i hi => by
      unfold indexO_l0_pre
      intro h
      simp only [Int.toNat_natCast]
      dsimp only at h ⊢; omega) (fun i x hx => by
      have hlt := lt_of_get hx
      unfold indexO_l0_step letV
      rw [if_pos (by dsimp only; omega), Int.toNat_natCast]
      dsimp only
      rw [getD_of hx]) (by
      unfold indexO_l0_step
      rw [if_neg (by dsimp only; omega)])
  refine ⟨h.1, ?_⟩
  have e : indexO (l, m) = _ := h.2
  unfold containsO letV
  rw [e]
  exact find_any l _
/-- All places are a mesh's. -/
def Ins (m : Msh) (l : Pts) : Prop := ∀ i ∈ Tris l, Has m i
theorem tris_le {l : Pts} (h : ∀ p ∈ l, p.1.length ≤ 1000000) : ∀ k, k ≤ l.length → (Tris (l.take k)).length ≤ 1000000 * k := by
  intro k
  induction k with
  | zero => intro _; simp [Tris]
  | succ k ih =>
    intro hk
    have := ih (by omega)
    have := h _ (getD_in (show k < l.length by omega) zP)
    rw [take_snoc (show k < l.length by omega) zP, tris_snoc, List.length_append]
    omega
theorem lplaces_law (m : Msh) (a : Atl) (hl : a.2.2.2.1.length ≤ 1000) (hp : ∀ p ∈ a.2.2.2.1, p.1.length ≤ 1000000) :
    lplaces_pre (m, a) ∧ (lplaces (m, a)).1 = Tris a.2.2.2.1 ∧ ((lplaces (m, a)).2 = true ↔ Ins m a.2.2.2.1) := by
  have key : TR (lplaces_l0_step (m, a)) (lplaces_l0_pre (m, a)) ([], 0) fun r => r = Tris a.2.2.2.1 := by
    refine for_loop a.2.2.2.1.length (fun i s => s = (Tris (a.2.2.2.1.take i), (i : Int))) _ (fun i s hi hj => ?_) (fun s hj => ?_) rfl
    · subst hj
      have h1 := tris_le hp i (by omega)
      have h2 := hp _ (getD_in hi zP)
      refine ⟨?_, .inl ⟨_, ?_, rfl⟩⟩
      · unfold lplaces_l0_pre
        intro _
        dsimp only
        rw [Int.toNat_natCast]
        have h3 : (a.2.2.2.1.getD i ([], ([], (0, 0)))).1.length ≤ 1000000 := h2
        exact ⟨by omega, hi, hi, by omega⟩
      · unfold lplaces_l0_step
        dsimp only
        rw [if_pos (by omega), Int.toNat_natCast, cntI hi (by omega), take_snoc hi zP, tris_snoc]
    · subst hj
      rw [List.take_length]
      refine ⟨?_, _, ?_, rfl⟩
      · unfold lplaces_l0_pre
        intro q
        dsimp only at q; omega
      · unfold lplaces_l0_step
        dsimp only
        rw [if_neg (by omega)]
  have h1 := tris_le hp a.2.2.2.1.length (Nat.le_refl _)
  rw [List.take_length] at h1
  have hlen : (Tris a.2.2.2.1).length < 4611686018427387904 := by omega
  obtain ⟨c1, c2⟩ := containsO_law (Tris a.2.2.2.1) hlen m
  have k2 := key.2
  unfold lplaces_pre lplaces letP letV
  dsimp only
  rw [k2]
  refine ⟨⟨key.1, c1⟩, rfl, ?_⟩
  rw [c2, Bool.not_eq_true', List.any_eq_false]
  unfold Ins
  constructor
  · intro h i hi
    have := h i hi
    rw [lodd_law] at this
    exact Classical.byContradiction this
  · intro h i hi
    rw [lodd_law]
    exact fun q => q (h i hi)
theorem lpoints_tm {m : Msh} {i : Int} (hm : tameB m = true) (h : Has m i) : lpoints_pre (m, i) := by
  obtain ⟨h1, h2, h3⟩ := triB_v (tame_tri hm h)
  unfold Tr at h1 h2 h3
  unfold lpoints_pre
  dsimp only at h1 h2 h3 ⊢
  omega
/-! ### Samples, texel by texel -/
section
variable (m : Msh) (W : Nat) (T : List T2) (at_ : List Int) (o : List Int)
noncomputable def lpt (n : Nat) : P3 × Int := lpoint (((n % W : Nat) : Int), (((n / W : Nat) : Int), (T.getD (o.getD n 0).toNat zT, lpoints (m, at_.getD (o.getD n 0).toNat 0))))
noncomputable def smp (n : Nat) : Option Smp := if o.getD n 0 < 0 then none else some (((n % W : Nat) : Int), (((n / W : Nat) : Int), (at_.getD (o.getD n 0).toNat 0, (lpt m W T at_ o n).1)))
noncomputable def smps : Nat → List Smp
  | 0 => []
  | n + 1 => smps n ++ (smp m W T at_ o n).toList
theorem smps_le : ∀ n, (smps m W T at_ o n).length ≤ n
  | 0 => Nat.le_refl _
  | n + 1 => by
    have := smps_le n
    have h : (smp m W T at_ o n).toList.length ≤ 1 := by cases smp m W T at_ o n <;> simp
    rw [smps, List.length_append]; omega
theorem smps_mono {i : Nat} {s : Smp} (hs : smp m W T at_ o i = some s) : ∀ k, ∃ r, smps m W T at_ o (i + 1 + k) = smps m W T at_ o i ++ s :: r := by
  intro k
  induction k with
  | zero => exact ⟨[], by rw [Nat.add_zero, smps, hs]; rfl⟩
  | succ k ih =>
    obtain ⟨r, e⟩ := ih
    exact ⟨r ++ (smp m W T at_ o (i + 1 + k)).toList, by rw [show i + 1 + (k + 1) = (i + 1 + k) + 1 by omega, smps, e]; simp⟩
theorem smps_get {i N : Nat} (hi : i < N) {s : Smp} (hs : smp m W T at_ o i = some s) : (smps m W T at_ o i).length < (smps m W T at_ o N).length ∧ (smps m W T at_ o N).getD (smps m W T at_ o i).length zS = s := by
  obtain ⟨r, e⟩ := smps_mono m W T at_ o hs (N - (i + 1))
  rw [show i + 1 + (N - (i + 1)) = N by omega] at e
  rw [e]
  refine ⟨by simp, ?_⟩
  rw [List.getD_eq_getElem?_getD, List.getElem?_append_right (Nat.le_refl _), Nat.sub_self]; rfl
theorem smps_mem {N : Nat} {s : Smp} (h : s ∈ smps m W T at_ o N) : ∃ n, n < N ∧ smp m W T at_ o n = some s := by
  induction N with
  | zero => cases h
  | succ N ih =>
    rw [smps, List.mem_append] at h
    rcases h with h | h
    · obtain ⟨n, h1, h2⟩ := ih h
      exact ⟨n, by omega, h2⟩
    · exact ⟨N, by omega, by simpa using h⟩
end
/-- What is handed to the loops is fine. -/
structure Gd (m : Msh) (W H : Nat) (T : List T2) (at_ : List Int) (o : List Int) : Prop where
  w : In1 (W : Int)
  h : In1 (H : Int)
  own : Own W H T o
  len : at_.length = T.length
  ins : ∀ i ∈ at_, Has m i
  tame : tameB m = true
theorem Gd.at_ {m : Msh} {W H : Nat} {T : List T2} {at_ : List Int} {o : List Int} (g : Gd m W H T at_ o) {n : Nat} (hn : n < W * H) (h : ¬ o.getD n 0 < 0) :
    0 ≤ o.getD n 0 ∧ (o.getD n 0).toNat < T.length ∧ (o.getD n 0).toNat < at_.length ∧ o.getD n 0 < (T.length : Int) ∧ o.getD n 0 < (at_.length : Int) ∧ Has m (at_.getD (o.getD n 0).toNat 0) := by
  have hlen := g.len
  rcases g.own.has n hn with q | ⟨j, h1, h2, _⟩
  · omega
  · exact ⟨by omega, by omega, by omega, by omega, by omega, g.ins _ (getD_in (by omega) 0)⟩
section
variable {m : Msh} {a : Atl} {W H : Nat} {T : List T2} {at_ : List Int} {o : List Int}
theorem samples_x (hw : a.1 = (W : Int)) (g : Gd m W H T at_ o) (y : Nat) (hy : y < H) :
    TR (lsamples_l2_step (m, a)) (lsamples_l2_pre (m, a)) (T, (at_, (o, (smps m W T at_ o (y * W), ((y : Int), ((y : Int), 0)))))) fun r => (∃ e, r = .inl e ∧ e ≠ 0) ∨ r = .inr (T, (at_, (o, (smps m W T at_ o ((y + 1) * W), (y : Int))))) := by
  obtain ⟨w1, w2⟩ := g.w
  obtain ⟨h1, h2⟩ := g.h
  have hm : W * H ≤ 256 * 256 := Nat.mul_le_mul (by omega) (by omega)
  refine for_loop W (fun k s => s = (T, (at_, (o, (smps m W T at_ o (y * W + k), ((y : Int), ((y : Int), (k : Int)))))))) _ (fun k s hk hj => ?_) (fun s hj => ?_) rfl
  · subst hj
    have hidx := idx_i (W := W) (H := H) (by omega) (by omega) hk hy
    have hlt := idx_lt hk hy
    have hlen := g.own.len
    have hsl := smps_le m W T at_ o (y * W + k)
    have hstep : w64 ((k : Int) + 1) = ((k + 1 : Nat) : Int) := by rw [w64_id (by omega) (by omega)]; omega
    by_cases c : o.getD (y * W + k) 0 < 0
    · have hs : smps m W T at_ o (y * W + (k + 1)) = smps m W T at_ o (y * W + k) := by
        rw [← Nat.add_assoc, smps]
        unfold smp
        rw [if_pos c]; simp
      refine ⟨?_, .inl ⟨_, ?_, rfl⟩⟩
      · unfold lsamples_l2_pre
        intro _
        dsimp only
        rw [hw, hidx, Int.toNat_natCast]
        exact ⟨by omega, by omega, by omega, fun q => absurd c q⟩
      · unfold lsamples_l2_step
        dsimp only
        rw [hw, if_pos (by omega), hidx, Int.toNat_natCast, if_pos c, hstep, hs]
    · obtain ⟨g1, g2, g3, g4, g5, g6⟩ := g.at_ hlt c
      have hp := lpoints_tm g.tame g6
      have hpt : lpoint ((k : Int), ((y : Int), (T.getD (o.getD (y * W + k) 0).toNat zT, lpoints (m, at_.getD (o.getD (y * W + k) 0).toNat 0)))) = lpt m W T at_ o (y * W + k) := by
        unfold lpt
        rw [idx_col hk, idx_row hk]
      have hs : smps m W T at_ o (y * W + (k + 1)) = smps m W T at_ o (y * W + k) ++ [((k : Int), ((y : Int), (at_.getD (o.getD (y * W + k) 0).toNat 0, (lpt m W T at_ o (y * W + k)).1)))] := by
        rw [← Nat.add_assoc, smps]
        unfold smp
        rw [if_neg c, idx_col hk, idx_row hk]; rfl
      refine ⟨?_, ?_⟩
      · unfold lsamples_l2_pre letP
        intro _
        dsimp only
        rw [hw, hidx, Int.toNat_natCast]
        exact ⟨by omega, by omega, by omega, fun _ => ⟨⟨g1, g4⟩, g2, g2, ⟨g1, g5⟩, g3, g3, hp, lpoint_tm _, fun _ => ⟨⟨g1, g5⟩, g3, g3, by omega⟩⟩⟩
      · unfold lsamples_l2_step letV
        dsimp only
        rw [hw, if_pos (by omega), hidx, Int.toNat_natCast, if_neg c]
        rw [show lpoint ((k : Int), ((y : Int), (T.getD (o.getD (y * W + k) 0).toNat ((0, 0), ((0, 0), (0, 0))), lpoints (m, at_.getD (o.getD (y * W + k) 0).toNat 0)))) = _ from hpt]
        by_cases e : (lpt m W T at_ o (y * W + k)).2 = 0
        · refine .inl ⟨_, ?_, rfl⟩
          rw [if_neg (by rw [e]; decide), hstep, hs]
        · refine .inr ⟨.inl (lpt m W T at_ o (y * W + k)).2, ?_, .inl ⟨_, rfl, e⟩⟩
          rw [if_pos (by simpa using e)]
  · subst hj
    refine ⟨?_, .inr _, ?_, .inr rfl⟩
    · unfold lsamples_l2_pre
      intro q
      dsimp only at q; omega
    · unfold lsamples_l2_step
      dsimp only
      rw [hw, if_neg (by omega), show (y + 1) * W = y * W + W by rw [Nat.add_mul, Nat.one_mul]]
theorem samples_y (hw : a.1 = (W : Int)) (hh : a.2.1 = (H : Int)) (g : Gd m W H T at_ o) :
    TR (lsamples_l0_step (m, a)) (lsamples_l0_pre (m, a)) (T, (at_, (o, ([], 0)))) fun r => (∃ e, r = .inl e ∧ e ≠ 0) ∨ r = .inr (smps m W T at_ o (W * H)) := by
  obtain ⟨h1, h2⟩ := g.h
  refine for_loop H (fun y s => s = (T, (at_, (o, (smps m W T at_ o (y * W), (y : Int)))))) _ (fun y s hy hj => ?_) (fun s hj => ?_) (by rw [Nat.zero_mul]; rfl)
  · subst hj
    have key := samples_x hw g y hy
    refine ⟨?_, ?_⟩
    · unfold lsamples_l0_pre
      intro _
      exact key.1
    · unfold lsamples_l0_step letV
      dsimp only
      rw [hh, if_pos (by omega)]
      rcases key.2 with ⟨e, e1, e2⟩ | e1
      · rw [e1]
        exact .inr ⟨_, rfl, .inl ⟨_, rfl, e2⟩⟩
      · rw [e1]
        refine .inl ⟨_, ?_, rfl⟩
        show Sum.inl _ = _
        rw [w64_id (n := (y : Int) + 1) (by omega) (by omega)]
        dsimp only
        congr 6
  · subst hj
    refine ⟨?_, _, ?_, .inr rfl⟩
    · unfold lsamples_l0_pre
      intro q
      dsimp only at q; omega
    · unfold lsamples_l0_step
      dsimp only
      rw [hh, if_neg (by omega), Nat.mul_comm W H]
end
/-! ### Samples -/
/-- All triangles of an atlas. -/
noncomputable def TT (a : Atl) : List T2 := allT a.2.2.2.1 a.2.2.2.2 a.2.2.1 a.2.2.2.1.length
structure Fine (m : Msh) (a : Atl) (o : List Int) : Prop where
  atl : IsAtl a
  all : allM a = (TT a, (allO a.2.2.2.1 a.2.2.2.1.length, 0))
  own : rowners (a.1, (a.2.1, TT a)) = (o, 0)
  gd : Gd m a.1.toNat a.2.1.toNat (TT a) (Tris a.2.2.2.1) o
theorem lsamples_law (m : Msh) (a : Atl) (hl : a.2.2.2.1.length ≤ 1000) (hl2 : a.2.2.2.2.length ≤ 1000) (hp : ∀ p ∈ a.2.2.2.1, p.1.length ≤ 1000000) :
    lsamples_pre (m, a) ∧ ((∃ e, e ≠ 0 ∧ lsamples (m, a) = ([], e)) ∨ (∃ o, Fine m a o ∧ lsamples (m, a) = (smps m a.1.toNat (TT a) (Tris a.2.2.2.1) o (a.1.toNat * a.2.1.toNat), 0))) := by
  obtain ⟨i1, i2⟩ := all_law a (by omega) (by omega)
  obtain ⟨p1, p2, p3⟩ := lplaces_law m a hl hp
  obtain ⟨t1, t2⟩ := tame_law m
  unfold lsamples_pre lsamples letP letV
  dsimp only
  rcases i2 with ⟨hn, e⟩ | ⟨hA, e⟩
  · rw [e]
    exact ⟨⟨i1, p1, fun q => absurd rfl q⟩, .inl ⟨1, by decide, rfl⟩⟩
  · have hwn : In1 a.1 := hA.num.1
    have hhn : In1 a.2.1 := hA.num.2.1
    have hw1 := hwn.1
    have hh1 := hhn.1
    have eW : ((a.1.toNat : Nat) : Int) = a.1 := by omega
    have eH : ((a.2.1.toNat : Nat) : Int) = a.2.1 := by omega
    have hTl := allT_len hA.rgt a.2.2.2.2 a.2.2.1 a.2.2.2.1.length (Nat.le_refl _)
    rw [List.take_length] at hTl
    have ow := rowners_law a.1.toNat a.2.1.toNat (by rw [eW]; exact hwn) (by rw [eH]; exact hhn) (TT a) (by unfold TT; omega)
    rw [eW, eH] at ow
    rw [show allT a.2.2.2.1 a.2.2.2.2 a.2.2.1 a.2.2.2.1.length = TT a from rfl] at e hTl
    rw [e]
    cases hb : (lplaces (m, a)).2 with
    | false =>
      exact ⟨⟨i1, p1, fun _ q => absurd (by decide) q⟩, .inl ⟨1, by decide, rfl⟩⟩
    | true =>
      have hins := p3.1 hb
      cases ht : tameB m with
      | false =>
        rw [t2, ht]
        exact ⟨⟨i1, p1, fun _ _ => ⟨t1, fun q => absurd (by decide) q⟩⟩, .inl ⟨1, by decide, rfl⟩⟩
      | true =>
        rw [t2, ht, p2]
        dsimp only
        rcases ow.2 with ⟨_, eo⟩ | ⟨_, o, eo, hO⟩
        · rw [eo]
          exact ⟨⟨i1, p1, fun _ _ => ⟨t1, fun _ => ⟨ow.1, fun q => absurd (by decide) q⟩⟩⟩, .inl ⟨1, by decide, rfl⟩⟩
        · rw [eo]
          have g : Gd m a.1.toNat a.2.1.toNat (TT a) (Tris a.2.2.2.1) o := ⟨by rw [eW]; exact hwn, by rw [eH]; exact hhn, hO, hTl.1.symm, hins, ht⟩
          have key := samples_y (a := a) eW.symm eH.symm g
          refine ⟨⟨i1, p1, fun _ _ => ⟨t1, fun _ => ⟨ow.1, fun _ => key.1⟩⟩⟩, ?_⟩
          rcases key.2 with ⟨e', k1, k2⟩ | k1
          · refine .inl ⟨e', k2, ?_⟩
            rw [k1]; rfl
          · refine .inr ⟨o, ⟨hA, e, eo, g⟩, ?_⟩
            rw [k1]; rfl
/-! ### At -/
theorem lhere_law (s : Smp) (p : P2) : lhere (s, p) = true ↔ s.1 = p.1 ∧ s.2.1 = p.2 := by
  unfold lhere
  simp
theorem lat_law (l : List Smp) (hl : l.length < 4611686018427387904) (p : P2) : lat_pre (l, p) ∧
    ((∃ s ∈ l, (s.1 = p.1 ∧ s.2.1 = p.2) ∧ lat (l, p) = (s, true)) ∨ ((∀ s ∈ l, ¬ (s.1 = p.1 ∧ s.2.1 = p.2)) ∧ lat (l, p) = (zS, false))) := by
  have h := index_loop l hl (fun s => lhere (s, p)) (indexS_l0_step (l, p)) (indexS_l0_pre (l, p)) (fun i hi => by
      unfold indexS_l0_pre
      intro h
      simp only [Int.toNat_natCast]
      dsimp only at h ⊢; omega) (fun i x hx => by
      have hlt := lt_of_get hx
      unfold indexS_l0_step letV
      rw [if_pos (by dsimp only; omega), Int.toNat_natCast]
      dsimp only
      rw [getD_of hx]) (by
      unfold indexS_l0_step
      rw [if_neg (by dsimp only; omega)])
  have e : indexS (l, p) = _ := h.2
  unfold lat_pre lat letP letV
  rw [e]
  cases hx : l.findIdx? fun s => lhere (s, p) with
  | none =>
    refine ⟨⟨h.1, fun q => absurd q (by decide)⟩, .inr ⟨fun s hs => ?_, rfl⟩⟩
    rw [List.findIdx?_eq_none_iff] at hx
    have := hx s hs
    rw [← lhere_law, this]; decide
  | some i =>
    rw [List.findIdx?_eq_some_iff_getElem] at hx
    obtain ⟨h1, h2, _⟩ := hx
    dsimp only
    refine ⟨⟨h.1, fun _ => by rw [Int.toNat_natCast]; omega⟩, .inl ⟨l[i], List.getElem_mem h1, (lhere_law _ _).1 h2, ?_⟩⟩
    rw [if_pos (by omega), Int.toNat_natCast, List.getD_eq_getElem?_getD, List.getElem?_eq_getElem h1]; rfl
/-! ### The document's rows -/
theorem zero_not : ¬ IsAtl (0, (0, (0, ([], [])))) := fun h => by
  have := h.num.1.1
  exact absurd this (by decide)
theorem lsamples_zero : lsamples_pre (([], ([], ([], []))), (0, (0, (0, ([], []))))) ∧ lsamples (([], ([], ([], []))), (0, (0, (0, ([], []))))) = ([], 1) := by
  obtain ⟨i1, i2⟩ := all_law (0, (0, (0, ([], [])))) (by decide) (by decide)
  obtain ⟨p1, p2, p3⟩ := lplaces_law ([], ([], ([], []))) (0, (0, (0, ([], [])))) (by decide) (fun p hp => by cases hp)
  rcases i2 with ⟨_, e⟩ | ⟨hA, _⟩
  · unfold lsamples_pre lsamples letP letV
    dsimp only
    rw [e]
    exact ⟨⟨i1, p1, fun q => absurd rfl q⟩, rfl⟩
  · exact absurd hA zero_not
theorem lifted_tm (x : Bool) : l20lifted_pre x := ⟨lpoint_tm _, lpoint_tm _, lsamples_zero.1, (lat_law _ (by decide) _).1⟩
theorem lat_two : lat ([((1 : Int), ((0 : Int), ((0 : Int), ((0 : Int), ((0 : Int), (0 : Int)))))), ((1 : Int), ((0 : Int), ((2 : Int), ((0 : Int), ((0 : Int), (0 : Int))))))], ((1 : Int), (0 : Int))) = (((1 : Int), ((0 : Int), ((0 : Int), ((0 : Int), ((0 : Int), (0 : Int)))))), true) := by
  unfold lat indexS letV
  have e : run (indexS_l0_step ([((1 : Int), ((0 : Int), ((0 : Int), ((0 : Int), ((0 : Int), (0 : Int)))))), ((1 : Int), ((0 : Int), ((2 : Int), ((0 : Int), ((0 : Int), (0 : Int))))))], ((1 : Int), (0 : Int)))) 0 = .inl 0 := by
    rw [run_eq]; rfl
  rw [e]; rfl
theorem lifted_law (x : Bool) : l20lifted x = true := by
  unfold l20lifted letV
  rw [lsamples_zero.2, lat_two, lpoint_law, lpoint_law, lcentre_law, lcentre_law, nlift_law, nlift_law]
  decide
end Go.Proofs.YtfgdjlhilladhaaGreat
