/- Plain laws: atlases: what is built; what is right. -/
import Derived.Test.YtfgdjlhilladhaaGreatBc
namespace Go.Proofs.YtfgdjlhilladhaaGreat
open Go Go.Ev Go.Proofs
set_option linter.unusedVariables false
set_option linter.unusedSimpArgs false
abbrev Atl : Type := Int × (Int × (Int × (Pts × List Rct)))
def siz (p : Ptc) (pad : Int) : Int × Int := (p.2.2.1 + 2 * pad, p.2.2.2 + 2 * pad)
theorem sz_in (n : Int) : 0 ≤ Sz n ∧ Sz n ≤ 257 := by unfold Sz; split <;> (try split) <;> omega
theorem IsPatch.dims {p : Ptc} (h : IsPatch p) : (0 ≤ p.2.2.1 ∧ p.2.2.1 ≤ 257) ∧ 0 ≤ p.2.2.2 ∧ p.2.2.2 ≤ 257 := by
  rw [h.w, h.h]; exact ⟨sz_in _, sz_in _⟩
theorem sizeM_law {p : Ptc} (h : IsPatch p) {pad : Int} (hp : 1 ≤ pad ∧ pad ≤ 8) : sizeM (p, pad) = siz p pad := by
  have := h.dims
  unfold sizeM siz
  dsimp only
  rw [w64_id (n := 2 * pad) (by omega) (by omega), w64_id (n := p.2.2.1 + 2 * pad) (by omega) (by omega), w64_id (n := p.2.2.2 + 2 * pad) (by omega) (by omega)]
theorem nodup_getD {l : List Int} (h : l.Nodup) {i j : Nat} (hi : i < l.length) (hj : j < l.length) (e : l.getD i 0 = l.getD j 0) : i = j := by
  rw [List.getD_eq_getElem?_getD, List.getD_eq_getElem?_getD, List.getElem?_eq_getElem hi, List.getElem?_eq_getElem hj] at e
  exact (List.getElem_inj h).1 e
/-! ### Build -/
/-! ### Is -/
structure IsAtl (a : Atl) : Prop where
  num : Num a.1 a.2.1 a.2.2.1
  len : a.2.2.2.2.length = a.2.2.2.1.length
  rgt : Rgt a.2.2.2.1
  siz : ∀ i, i < a.2.2.2.1.length → (a.2.2.2.2.getD i zR).2.2 = siz (a.2.2.2.1.getD i zP) a.2.2.1
  sh : ShIs a.1 a.2.1 a.2.2.2.2
theorem is_law (a : Atl) (hl : a.2.2.2.1.length < 1099511627776) (hl2 : a.2.2.2.2.length < 1099511627776) : isM_pre a ∧ (isM a = true ↔ IsAtl a) := by
  obtain ⟨w, h, pad, l, R⟩ := a
  dsimp only at hl hl2
  have n1 := numbersM_law w h pad
  obtain ⟨r1, r2⟩ := right_law l (by omega)
  unfold isM_pre isM letP letV
  dsimp only
  cases hn : numbersM (w, (h, pad)) with
  | false =>
    refine ⟨fun q => absurd rfl q, fun q => (by cases q), fun q => ?_⟩
    rw [n1.2 q.num] at hn; cases hn
  | true =>
    have hN := n1.1 hn
    obtain ⟨hw, hh, hp⟩ := hN
    by_cases hlen : R.length = l.length
    rotate_left
    · have hb : (((R.length : Nat) : Int) != ((l.length : Nat) : Int)) = true := by simp; omega
      refine ⟨fun _ q => absurd hb q, ?_⟩
      rw [if_neg (by decide), if_pos hb]
      exact ⟨fun q => (by cases q), fun q => absurd q.len hlen⟩
    have hb : ¬ (((R.length : Nat) : Int) != ((l.length : Nat) : Int)) = true := by simp; omega
    rw [if_neg (by decide), if_neg hb]
    cases hr : rightR l with
    | false =>
      refine ⟨fun _ _ => ⟨r1, fun q => absurd rfl q⟩, fun q => (by cases q), fun q => ?_⟩
      rw [r2.2 q.rgt] at hr; cases hr
    | true =>
      have hR := r2.1 hr
      have key : TR (isM_l0_step (w, (h, (pad, (l, R))))) (isM_l0_pre (w, (h, (pad, (l, R))))) 0 fun r => (r = .inl () ∧ ¬ ∀ i, i < l.length → (R.getD i zR).2.2 = Go.Proofs.YtfgdjlhilladhaaGreat.siz (l.getD i zP) pad) ∨ (r = .inr () ∧ ∀ i, i < l.length → (R.getD i zR).2.2 = Go.Proofs.YtfgdjlhilladhaaGreat.siz (l.getD i zP) pad) := by
        refine for_loop l.length (fun i s => s = (i : Int) ∧ ∀ j, j < i → (R.getD j zR).2.2 = Go.Proofs.YtfgdjlhilladhaaGreat.siz (l.getD j zP) pad) _ (fun i s hi hj => ?_) (fun s hj => ?_) ⟨rfl, fun j hj => absurd hj (Nat.not_lt_zero _)⟩
        · obtain ⟨rfl, hJ⟩ := hj
          have hq := sizeM_law (hR.all _ (getD_in hi zP)) hp
          refine ⟨?_, ?_⟩
          · unfold isM_l0_pre
            intro _
            dsimp only
            rw [Int.toNat_natCast]
            omega
          · unfold isM_l0_step letV
            dsimp only
            rw [if_pos (by omega), Int.toNat_natCast, show sizeM (l.getD i ([], ([], (0, 0))), pad) = _ from hq]
            by_cases c : (R.getD i zR).2.2 = Go.Proofs.YtfgdjlhilladhaaGreat.siz (l.getD i zP) pad
            · refine .inl ⟨_, ?_, cntI hi (by omega), fun j hj => ?_⟩
              · rw [if_neg]
                rw [show (R.getD i (0, (0, (0, 0)))).2.2.1 = _ from congrArg Prod.fst c, show (R.getD i (0, (0, (0, 0)))).2.2.2 = _ from congrArg Prod.snd c]
                simp
              · rcases Nat.lt_or_ge j i with h1 | h1
                · exact hJ j h1
                · have : j = i := by omega
                  subst this; exact c
            · refine .inr ⟨.inl (), ?_, .inl ⟨rfl, fun q => c (q i hi)⟩⟩
              rw [if_pos]
              have : ¬ ((R.getD i zR).2.2.1 = (Go.Proofs.YtfgdjlhilladhaaGreat.siz (l.getD i zP) pad).1 ∧ (R.getD i zR).2.2.2 = (Go.Proofs.YtfgdjlhilladhaaGreat.siz (l.getD i zP) pad).2) := fun q => c (Prod.ext q.1 q.2)
              show (!(((R.getD i zR).2.2.1 == (Go.Proofs.YtfgdjlhilladhaaGreat.siz (l.getD i zP) pad).1) && (((R.getD i zR).2.2.2 == (Go.Proofs.YtfgdjlhilladhaaGreat.siz (l.getD i zP) pad).2) && true))) = true
              generalize (R.getD i zR).2.2 = u at this ⊢
              generalize Go.Proofs.YtfgdjlhilladhaaGreat.siz (l.getD i zP) pad = v at this ⊢
              cases hb : ((u.1 == v.1) && ((u.2 == v.2) && true)) with
              | false => rfl
              | true =>
                simp only [Bool.and_eq_true, beq_iff_eq, and_true] at hb
                exact absurd hb this
        · obtain ⟨rfl, hJ⟩ := hj
          refine ⟨?_, .inr (), ?_, .inr ⟨rfl, hJ⟩⟩
          · unfold isM_l0_pre
            intro q
            dsimp only at q; omega
          · unfold isM_l0_step
            dsimp only
            rw [if_neg (by omega)]
      have k1 := key.1
      rw [if_neg (by decide)]
      obtain ⟨s1, s2⟩ := shis_law hw hh R (by omega)
      rcases key.2 with ⟨e, hS⟩ | ⟨e, hS⟩
      · rw [e]
        exact ⟨fun _ _ => ⟨r1, fun _ => ⟨k1, trivial⟩⟩, fun q => (by cases q), fun q => absurd q.siz hS⟩
      · rw [e]
        refine ⟨fun _ _ => ⟨r1, fun _ => ⟨k1, s1⟩⟩, ?_⟩
        show shis (w, (h, R)) = true ↔ _
        rw [s2]
        exact ⟨fun q => ⟨⟨hw, hh, hp⟩, hlen, hR, hS, q⟩, fun q => q.sh⟩
end Go.Proofs.YtfgdjlhilladhaaGreat
