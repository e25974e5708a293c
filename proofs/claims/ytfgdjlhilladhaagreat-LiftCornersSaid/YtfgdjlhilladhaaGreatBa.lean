/- Plain laws: shelves: places under a sky. -/
import Derived.Test.YtfgdjlhilladhaaGreatAa
import Derived.Test.YtfgdjlhilladhaaGreatTp
import Derived.Test.YtfgdjlhilladhaaGreatQe
import Derived.Test.YtfgdjlhilladhaaGreatQm
namespace Go.Proofs.YtfgdjlhilladhaaGreat
open Go Go.Ev Go.Proofs
set_option linter.unusedVariables false
set_option linter.unusedSimpArgs false
/-- A loop that counts. -/
theorem for_loop {S R : Type} [Inhabited R] {step : S → S ⊕ R} {pre : S → Prop} (n : Nat) (J : Nat → S → Prop) (Post : R → Prop)
    (h1 : ∀ i s, i < n → J i s → pre s ∧ ((∃ s', step s = .inl s' ∧ J (i + 1) s') ∨ (∃ r, step s = .inr r ∧ Post r)))
    (h2 : ∀ s, J n s → pre s ∧ ∃ r, step s = .inr r ∧ Post r) {s : S} (h0 : J 0 s) : TR step pre s Post := by
  have key : ∀ k i, i + k = n → ∀ s, J i s → TR step pre s Post := by
    intro k
    induction k with
    | zero =>
      intro i e s hj
      have : i = n := by omega
      subst this
      obtain ⟨hp, r, e1, hq⟩ := h2 s hj
      exact TR.stop hp e1 hq
    | succ k ih =>
      intro i e s hj
      obtain ⟨hp, ⟨s', e1, hj'⟩ | ⟨r, e1, hq⟩⟩ := h1 i s (by omega) hj
      · exact TR.go hp e1 (ih (i + 1) (by omega) s' hj')
      · exact TR.stop hp e1 hq
  exact key n 0 (by omega) s h0
theorem take_snoc {α : Type} {l : List α} {i : Nat} (h : i < l.length) (d : α) : l.take (i + 1) = l.take i ++ [l.getD i d] := by
  rw [List.take_add_one, List.getD_eq_getElem?_getD, List.getElem?_eq_getElem h]; rfl
theorem getD_in {α : Type} {l : List α} {i : Nat} (h : i < l.length) (d : α) : l.getD i d ∈ l := by
  rw [List.getD_eq_getElem?_getD, List.getElem?_eq_getElem h]; exact List.getElem_mem h
theorem cntI {i n : Nat} (h : i < n) (hn : n < 4611686018427387904) : w64 ((i : Int) + 1) = ((i + 1 : Nat) : Int) := cnt h hn
/-! ### Numbers -/
def In1 (v : Int) : Prop := 1 ≤ v ∧ v ≤ 256
/-! ### The greatest -/
/-! ### Where there is room -/
/-! ### Columns that are lifted -/
end Go.Proofs.YtfgdjlhilladhaaGreat
