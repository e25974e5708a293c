/- Tools for plain laws: loops. -/
import Derived.Test.YtfgdjlhilladhaaGreatEvR
namespace Go.Proofs.YtfgdjlhilladhaaGreat
set_option linter.unusedVariables false
set_option linter.unusedSimpArgs false
open Go Go.Ev Go.Proofs
theorem mulb {a b A B : Int} (h1 : -A ≤ a) (h2 : a ≤ A) (h3 : -B ≤ b) (h4 : b ≤ B) : -(A * B) ≤ a * b ∧ a * b ≤ A * B := by
  have e1 := Int.mul_nonneg (show 0 ≤ A - a by omega) (show 0 ≤ B + b by omega)
  have e2 := Int.mul_nonneg (show 0 ≤ A + a by omega) (show 0 ≤ B - b by omega)
  have e3 := Int.mul_nonneg (show 0 ≤ A - a by omega) (show 0 ≤ B - b by omega)
  have e4 := Int.mul_nonneg (show 0 ≤ A + a by omega) (show 0 ≤ B + b by omega)
  constructor <;> grind
/-! ### Loops over a row -/
theorem row_loop {α R : Type} [Inhabited R] (l : List α) (step : Int → Int ⊕ R) (pre : Int → Prop) (out : List α → R)
    (hp : ∀ i : Nat, i ≤ l.length → pre i)
    (hs : ∀ (i : Nat) (x : α), l[i]? = some x → (step i = .inl ((i : Int) + 1) ∧ out (l.drop i) = out (l.drop (i + 1))) ∨ step i = .inr (out (l.drop i)))
    (he : step l.length = .inr (out [])) : Term step pre 0 ∧ run step 0 = out l := by
  refine ⟨Term.of (fun s : Int => ∃ i : Nat, s = i ∧ i ≤ l.length) (fun s : Int => l.length - s.toNat) (fun s ⟨i, e, hi⟩ => ?_) 0 ⟨0, rfl, Nat.zero_le _⟩, ?_⟩
  · subst e
    refine ⟨hp i hi, fun s' h => ?_⟩
    rcases Nat.lt_or_ge i l.length with hlt | hge
    · rcases hs i _ (List.getElem?_eq_getElem hlt) with ⟨h1, _⟩ | h1
      · rw [h1] at h
        cases h
        exact ⟨⟨i + 1, by omega, hlt⟩, by simp only [Int.toNat_natCast]; omega⟩
      · rw [h1] at h; cases h
    · have : i = l.length := by omega
      subst this
      rw [he] at h; cases h
  · have main : ∀ k i : Nat, i + k = l.length → run step i = out (l.drop i) := by
      intro k
      induction k with
      | zero =>
        intro i hi
        have : i = l.length := by omega
        subst this
        rw [run_eq, he, List.drop_length]
      | succ k ih =>
        intro i hi
        have hlt : i < l.length := by omega
        rw [run_eq]
        rcases hs i _ (List.getElem?_eq_getElem hlt) with ⟨h1, h2⟩ | h1
        · rw [h1, h2]
          exact ih (i + 1) (by omega)
        · rw [h1]
    simpa using main l.length 0 (by omega)
def allOut {α : Type} (bad : α → Bool) (l : List α) : Unit ⊕ Unit := if l.any bad = true then .inl () else .inr ()
theorem getD_of {α : Type} {l : List α} {i : Nat} {x d : α} (h : l[i]? = some x) : l.getD i d = x := by rw [List.getD_eq_getElem?_getD, h]; rfl
theorem lt_of_get {α : Type} {l : List α} {i : Nat} {x : α} (h : l[i]? = some x) : i < l.length := (List.getElem?_eq_some_iff.1 h).1
theorem drop_of {α : Type} {l : List α} {i : Nat} {x : α} (h : l[i]? = some x) : l.drop i = x :: l.drop (i + 1) := by
  obtain ⟨h1, h2⟩ := List.getElem?_eq_some_iff.1 h
  rw [List.drop_eq_getElem_cons h1, h2]
theorem all_loop {α : Type} (l : List α) (hl : l.length < 4611686018427387904) (bad : α → Bool) (step : Int → Int ⊕ (Unit ⊕ Unit)) (pre : Int → Prop)
    (hp : ∀ i : Nat, i ≤ l.length → pre i)
    (hs : ∀ (i : Nat) (x : α), l[i]? = some x → step i = if bad x = true then .inr (.inl ()) else .inl (w64 ((i : Int) + 1)))
    (he : step l.length = .inr (.inr ())) : Term step pre 0 ∧ Sum.elim (fun _ => false) (fun _ => true) (run step 0) = !l.any bad := by
  obtain ⟨h1, h2⟩ := row_loop l step pre (allOut bad) hp (fun i x hx => by
    have hlt := lt_of_get hx
    rw [hs i x hx, drop_of hx]
    unfold allOut
    simp only [List.any_cons]
    by_cases hb : bad x = true
    · exact .inr (by simp [hb])
    · refine .inl ⟨?_, by simp [hb]⟩
      rw [if_neg hb, w64_id (by omega) (by omega)]) (by rw [he]; simp [allOut])
  refine ⟨h1, ?_⟩
  rw [h2]
  unfold allOut
  cases l.any bad <;> rfl
theorem loop_inv {S R : Type} [Inhabited R] {step : S → S ⊕ R} {pre : S → Prop} (J : S → Prop) (μ : S → Nat) (Post : R → Prop)
    (h : ∀ s, J s → pre s ∧ (∀ s', step s = .inl s' → J s' ∧ μ s' < μ s) ∧ ∀ r, step s = .inr r → Post r) (s : S) (hs : J s) : Term step pre s ∧ Post (run step s) := by
  refine ⟨Term.of J μ (fun s hs => ⟨(h s hs).1, (h s hs).2.1⟩) s hs, ?_⟩
  obtain ⟨n, hn⟩ : ∃ n, n = μ s := ⟨_, rfl⟩
  induction n using Nat.strongRecOn generalizing s with
  | _ n ih =>
    obtain ⟨_, h2, h3⟩ := h s hs
    rw [run_eq]
    cases e : step s with
    | inl s' =>
      obtain ⟨h4, h5⟩ := h2 s' e
      exact ih (μ s') (by omega) s' h4 rfl
    | inr r => exact h3 r e
theorem cnt {i n : Nat} (h : i < n) (hn : n < 4611686018427387904) : w64 ((i : Int) + 1) = ((i + 1 : Nat) : Int) := by rw [w64_id (by omega) (by omega)]; omega
theorem index_loop {α : Type} (l : List α) (hl : l.length < 4611686018427387904) (bad : α → Bool) (step : Int → Int ⊕ (Int ⊕ Unit)) (pre : Int → Prop)
    (hp : ∀ i : Nat, i ≤ l.length → pre i)
    (hs : ∀ (i : Nat) (x : α), l[i]? = some x → step i = if bad x = true then .inr (.inl i) else .inl (w64 ((i : Int) + 1)))
    (he : step l.length = .inr (.inr ())) : Term step pre 0 ∧ Sum.elim (fun a => a) (fun _ => -1) (run step 0) = match l.findIdx? bad with | some i => (i : Int) | none => -1 := by
  have key : ∀ i : Nat, i ≤ l.length → (∀ j x, j < i → l[j]? = some x → bad x = false) → True := fun _ _ _ => trivial
  obtain ⟨h1, h2⟩ := loop_inv (step := step) (pre := pre) (fun s => ∃ i : Nat, s = i ∧ i ≤ l.length ∧ ∀ j x, j < i → l[j]? = some x → bad x = false) (fun s => l.length - s.toNat)
    (fun r => Sum.elim (fun a => a) (fun _ => -1) r = match l.findIdx? bad with | some i => (i : Int) | none => -1) (fun s ⟨i, e, hi, hb⟩ => by
      subst e
      refine ⟨hp i hi, fun s' h => ?_, fun r h => ?_⟩
      · rcases Nat.lt_or_ge i l.length with hlt | hge
        · have hg := List.getElem?_eq_getElem hlt
          rw [hs i _ hg] at h
          split at h
          · cases h
          · rename_i hn
            cases h
            refine ⟨⟨i + 1, by rw [w64_id (by omega) (by omega)]; rfl, hlt, fun j x hj hx => ?_⟩, ?_⟩
            · rcases Nat.lt_or_ge j i with h1 | h1
              · exact hb j x h1 hx
              · have : j = i := by omega
                subst this
                rw [hg] at hx; cases hx
                simpa using hn
            · rw [w64_id (by omega) (by omega), Int.toNat_natCast, show ((i : Int) + 1).toNat = i + 1 by omega]; omega
        · have : i = l.length := by omega
          subst this
          rw [he] at h; cases h
      · rcases Nat.lt_or_ge i l.length with hlt | hge
        · have hg := List.getElem?_eq_getElem hlt
          rw [hs i _ hg] at h
          split at h
          · rename_i hy
            cases h
            have : l.findIdx? bad = some i := by
              rw [List.findIdx?_eq_some_iff_getElem]
              refine ⟨hlt, hy, fun j hj => ?_⟩
              rw [hb j _ hj (List.getElem?_eq_getElem (by omega))]; simp
            rw [this]; rfl
          · cases h
        · have : i = l.length := by omega
          subst this
          rw [he] at h; cases h
          have : l.findIdx? bad = none := by
            rw [List.findIdx?_eq_none_iff]
            intro x hx
            obtain ⟨j, hj, rfl⟩ := List.getElem_of_mem hx
            exact hb j _ hj (List.getElem?_eq_getElem hj)
          rw [this]; rfl) 0 ⟨0, rfl, Nat.zero_le _, fun j x hj => absurd hj (Nat.not_lt_zero _)⟩
  exact ⟨h1, h2⟩
theorem find_any {α : Type} (l : List α) (bad : α → Bool) : decide ((match l.findIdx? bad with | some i => (i : Int) | none => -1) ≥ 0) = l.any bad := by
  cases h : l.findIdx? bad with
  | none =>
    rw [List.findIdx?_eq_none_iff] at h
    symm
    simp only [List.any_eq_false]
    refine Eq.trans ?_ (by decide : false = decide ((-1 : Int) ≥ 0))
    rw [List.any_eq_false]
    exact fun x hx => by rw [h x hx]; simp
  | some i =>
    rw [List.findIdx?_eq_some_iff_getElem] at h
    obtain ⟨h1, h2, _⟩ := h
    have : l.any bad = true := List.any_eq_true.2 ⟨_, List.getElem_mem h1, h2⟩
    rw [this]
    exact decide_eq_true (by dsimp only; omega)
end Go.Proofs.YtfgdjlhilladhaaGreat
