/- Plain laws: shelves: what is packed. -/
import Derived.Test.YtfgdjlhilladhaaGreatBa
namespace Go.Proofs.YtfgdjlhilladhaaGreat
open Go Go.Ev Go.Proofs
set_option linter.unusedVariables false
set_option linter.unusedSimpArgs false
abbrev Rct : Type := Int × (Int × (Int × Int))
abbrev zR : Rct := (0, (0, (0, 0)))
/-! ### Pack -/
/-! ### What is packed lies apart -/
def Inb (w h : Int) (r : Rct) : Prop := (1 ≤ r.2.2.1 ∧ 1 ≤ r.2.2.2) ∧ (0 ≤ r.1 ∧ 0 ≤ r.2.1) ∧ r.1 + r.2.2.1 ≤ w ∧ r.2.1 + r.2.2.2 ≤ h
def ApR (a b : Rct) : Prop := a.1 + a.2.2.1 ≤ b.1 ∨ b.1 + b.2.2.1 ≤ a.1 ∨ a.2.1 + a.2.2.2 ≤ b.2.1 ∨ b.2.1 + b.2.2.2 ≤ a.2.1
theorem ApR.symm {a b : Rct} (h : ApR a b) : ApR b a := by unfold ApR at *; omega
/-! ### Is -/
theorem wrap64 {n : Int} (h1 : 0 ≤ n) (h2 : n < 18446744073709551616) : IntKind.wrap IntKind.u64 n = n := by
  unfold IntKind.wrap
  simp [IntKind.bits, IntKind.signed]
  omega
theorem behind_law {a n b : Int} (ha : 0 ≤ a) (hn : 0 ≤ n) (hb : 0 ≤ b) (ha2 : a < 1000) (hn2 : n < 1000) (hb2 : b < 1000) : behind (a, (n, b)) = decide (a + n ≤ b) := by
  unfold behind
  dsimp only
  by_cases h : b ≥ a
  · rw [if_pos h, wrap64 hb (by omega), wrap64 ha (by omega), wrap64 hn (by omega), wrap64 (by omega) (by omega), decide_eq_decide]
    omega
  · rw [if_neg h]; symm; exact decide_eq_false (by omega)
theorem sapart_law {w h : Int} (hw : In1 w) (hh : In1 h) {a b : Rct} (ha : Inb w h a) (hb : Inb w h b) : sapart (a, b) = true ↔ ApR a b := by
  obtain ⟨⟨a1, a2⟩, ⟨a3, a4⟩, a5, a6⟩ := ha
  obtain ⟨⟨b1, b2⟩, ⟨b3, b4⟩, b5, b6⟩ := hb
  obtain ⟨_, w2⟩ := hw
  obtain ⟨_, h2⟩ := hh
  have n1 : ¬ a.2.2.1 ≤ 0 := by omega
  have n2 : ¬ a.2.2.2 ≤ 0 := by omega
  have n3 : ¬ b.2.2.1 ≤ 0 := by omega
  have n4 : ¬ b.2.2.2 ≤ 0 := by omega
  have k1 := behind_law (a := a.1) (n := a.2.2.1) (b := b.1) (by omega) (by omega) (by omega) (by omega) (by omega) (by omega)
  have k2 := behind_law (a := b.1) (n := b.2.2.1) (b := a.1) (by omega) (by omega) (by omega) (by omega) (by omega) (by omega)
  have k3 := behind_law (a := a.2.1) (n := a.2.2.2) (b := b.2.1) (by omega) (by omega) (by omega) (by omega) (by omega) (by omega)
  have k4 := behind_law (a := b.2.1) (n := b.2.2.2) (b := a.2.1) (by omega) (by omega) (by omega) (by omega) (by omega) (by omega)
  unfold sapart sfree letV
  dsimp only
  rw [if_neg n1, if_neg n2, if_neg n3, if_neg n4, k1, k2, k3, k4]
  unfold ApR
  simp only [decide_eq_true_eq]
  by_cases c1 : a.1 + a.2.2.1 ≤ b.1
  · simp [c1]
  · by_cases c2 : b.1 + b.2.2.1 ≤ a.1
    · simp [c1, c2]
    · by_cases c3 : a.2.1 + a.2.2.2 ≤ b.2.1
      · simp [c1, c2, c3]
      · simp [c1, c2, c3]
theorem containsR_law (l : List Rct) (hl : l.length < 4611686018427387904) (r : Rct) : containsR_pre (l, r) ∧ containsR (l, r) = l.any fun o => nota (o, r) := by
  have h := index_loop l hl (fun o => nota (o, r)) (indexR_l0_step (l, r)) (indexR_l0_pre (l, r)) (fun i hi => by
      unfold indexR_l0_pre
      intro h
      simp only [Int.toNat_natCast]
      dsimp only at h ⊢; omega) (fun i x hx => by
      have hlt := lt_of_get hx
      unfold indexR_l0_step letV
      rw [if_pos (by dsimp only; omega), Int.toNat_natCast]
      dsimp only
      rw [getD_of hx]) (by
      unfold indexR_l0_step
      rw [if_neg (by dsimp only; omega)])
  refine ⟨h.1, ?_⟩
  have e : indexR (l, r) = _ := h.2
  unfold containsR letV
  rw [e]
  exact find_any l _
def ShIs (w h : Int) (l : List Rct) : Prop := ∀ i, i < l.length → Inb w h (l.getD i zR) ∧ ∀ k, k < i → ApR (l.getD k zR) (l.getD i zR)
theorem shis_law {w h : Int} (hw : In1 w) (hh : In1 h) (l : List Rct) (hl : l.length < 4611686018427387904) : shis_pre (w, (h, l)) ∧ (shis (w, (h, l)) = true ↔ ShIs w h l) := by
  have key : TR (shis_l0_step (w, (h, l))) (shis_l0_pre (w, (h, l))) 0 fun r => (r = .inl () ∧ ¬ ShIs w h l) ∨ (r = .inr () ∧ ShIs w h l) := by
    refine for_loop l.length (fun i s => s = (i : Int) ∧ ∀ j, j < i → Inb w h (l.getD j zR) ∧ ∀ k, k < j → ApR (l.getD k zR) (l.getD j zR)) _ (fun i s hi hj => ?_) (fun s hj => ?_) ⟨rfl, fun j hj => absurd hj (Nat.not_lt_zero _)⟩
    · obtain ⟨e, hJ⟩ := hj
      subst e
      have hbad : (¬ (Inb w h (l.getD i zR) ∧ ∀ k, k < i → ApR (l.getD k zR) (l.getD i zR))) → ¬ ShIs w h l := fun q q' => q (q' i hi)
      obtain ⟨c1, c2⟩ := containsR_law (l.take i) (by rw [List.length_take]; omega) (l.getD i zR)
      have m1 := minI_le (l.getD i zR).2.2.1 (l.getD i zR).2.2.2
      have m2 := minI_le (l.getD i zR).1 (l.getD i zR).2.1
      have hw' := hw
      have hh' := hh
      obtain ⟨w1, w2⟩ := hw
      obtain ⟨h1, h2⟩ := hh
      refine ⟨?_, ?_⟩
      · unfold shis_l0_pre
        intro _
        dsimp only
        rw [Int.toNat_natCast]
        exact ⟨by omega, hi, hi, fun _ _ _ _ _ _ => ⟨by omega, c1⟩⟩
      · unfold shis_l0_step letV
        dsimp only
        rw [if_pos (by omega), Int.toNat_natCast]
        by_cases d1 : minI (l.getD i zR).2.2.1 (l.getD i zR).2.2.2 < 1
        · rw [if_pos d1]
          exact .inr ⟨_, rfl, .inl ⟨rfl, hbad fun q => by have := q.1.1; omega⟩⟩
        rw [if_neg d1]
        by_cases d2 : minI (l.getD i zR).1 (l.getD i zR).2.1 < 0
        · rw [if_pos d2]
          exact .inr ⟨_, rfl, .inl ⟨rfl, hbad fun q => by have := q.1.2.1; omega⟩⟩
        rw [if_neg d2]
        by_cases d3 : (l.getD i zR).2.2.1 > w
        · rw [if_pos d3]
          exact .inr ⟨_, rfl, .inl ⟨rfl, hbad fun q => by have := q.1.2.2.1; have := q.1.2.1; omega⟩⟩
        rw [if_neg d3]
        by_cases d4 : (l.getD i zR).2.2.2 > h
        · rw [if_pos d4]
          exact .inr ⟨_, rfl, .inl ⟨rfl, hbad fun q => by have := q.1.2.2.2; have := q.1.2.1; omega⟩⟩
        rw [if_neg d4, w64_id (n := w - (l.getD i zR).2.2.1) (by omega) (by omega)]
        by_cases d5 : (l.getD i zR).1 > w - (l.getD i zR).2.2.1
        · rw [if_pos d5]
          exact .inr ⟨_, rfl, .inl ⟨rfl, hbad fun q => by have := q.1.2.2.1; omega⟩⟩
        rw [if_neg d5, w64_id (n := h - (l.getD i zR).2.2.2) (by omega) (by omega)]
        by_cases d6 : (l.getD i zR).2.1 > h - (l.getD i zR).2.2.2
        · rw [if_pos d6]
          exact .inr ⟨_, rfl, .inl ⟨rfl, hbad fun q => by have := q.1.2.2.2; omega⟩⟩
        rw [if_neg d6, c2]
        have hin : Inb w h (l.getD i zR) := ⟨⟨by omega, by omega⟩, ⟨by omega, by omega⟩, by omega, by omega⟩
        have hany : ((l.take i).any fun o => nota (o, l.getD i zR)) = false ↔ ∀ k, k < i → ApR (l.getD k zR) (l.getD i zR) := by
          rw [List.any_eq_false]
          constructor
          · intro q k hk
            have hm : l.getD k zR ∈ l.take i := by
              have : l.getD k zR = (l.take i).getD k zR := by rw [List.getD_eq_getElem?_getD, List.getD_eq_getElem?_getD, List.getElem?_take, if_pos hk]
              rw [this]; exact getD_in (by rw [List.length_take]; omega) _
            have := q _ hm
            unfold nota letV at this
            exact (sapart_law hw' hh' (hJ k hk).1 hin).1 (by simpa using this)
          · intro q o ho
            obtain ⟨k, hk, rfl⟩ := List.getElem_of_mem ho
            rw [List.length_take] at hk
            have e : (l.take i)[k] = l.getD k zR := by
              rw [List.getElem_take, List.getD_eq_getElem?_getD, List.getElem?_eq_getElem (by omega)]; rfl
            rw [e]
            unfold nota letV
            rw [(sapart_law hw' hh' (hJ k (by omega)).1 hin).2 (q k (by omega))]; simp
        cases hc : (l.take i).any fun o => nota (o, l.getD i zR) with
        | true =>
          rw [if_pos rfl]
          refine .inr ⟨_, rfl, .inl ⟨rfl, hbad fun q => ?_⟩⟩
          rw [hany.2 q.2] at hc; cases hc
        | false =>
          rw [if_neg (by decide)]
          refine .inl ⟨_, rfl, cntI hi hl, fun j hj => ?_⟩
          rcases Nat.lt_or_ge j i with hji | hji
          · exact hJ j hji
          · have : j = i := by omega
            subst this
            exact ⟨hin, hany.1 hc⟩
    · obtain ⟨e, hJ⟩ := hj
      subst e
      refine ⟨?_, .inr (), ?_, .inr ⟨rfl, hJ⟩⟩
      · unfold shis_l0_pre
        intro q
        dsimp only at q; omega
      · unfold shis_l0_step
        rw [if_neg (by dsimp only; omega)]
  refine ⟨key.1, ?_⟩
  unfold shis letV
  rcases key.2 with ⟨e, hn⟩ | ⟨e, hy⟩
  · rw [e]; exact ⟨fun q => (by cases q), fun q => absurd q hn⟩
  · rw [e]; exact ⟨fun _ => hy, fun _ => rfl⟩
end Go.Proofs.YtfgdjlhilladhaaGreat
