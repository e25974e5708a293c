/- Sorting few elements, plain. -/
import Derived.Test.YtfgdjlhilladhaaGreatQ0
namespace Go.Proofs.YtfgdjlhilladhaaGreat
open Go Go.Ev Go.Proofs
set_option linter.unusedVariables false
set_option linter.unusedSimpArgs false
/-- A loop ends, and what holds behind it. -/
def TR {S R : Type} [Inhabited R] (step : S → S ⊕ R) (pre : S → Prop) (s : S) (Post : R → Prop) : Prop := Term step pre s ∧ Post (run step s)
theorem TR.stop {S R : Type} [Inhabited R] {step : S → S ⊕ R} {pre : S → Prop} {s : S} {Post : R → Prop} {r : R} (hp : pre s) (h : step s = .inr r) (hq : Post r) : TR step pre s Post :=
  ⟨.mk s hp (fun s' e => by rw [h] at e; cases e), by rw [run_eq, h]; exact hq⟩
theorem TR.go {S R : Type} [Inhabited R] {step : S → S ⊕ R} {pre : S → Prop} {s s' : S} {Post : R → Prop} (hp : pre s) (h : step s = .inl s') (hn : TR step pre s' Post) : TR step pre s Post :=
  ⟨.mk s hp (fun t e => by rw [h] at e; cases e; exact hn.1), by rw [run_eq, h]; exact hn.2⟩
theorem TR.mono {S R : Type} [Inhabited R] {step : S → S ⊕ R} {pre : S → Prop} {s : S} {Post Post' : R → Prop} (h : TR step pre s Post) (hq : ∀ r, Post r → Post' r) : TR step pre s Post' := ⟨h.1, hq _ h.2⟩

/-! ### Lists and arrays -/
/-! ### reverseRange -/
/-! ### insertionSort -/
end Go.Proofs.YtfgdjlhilladhaaGreat
