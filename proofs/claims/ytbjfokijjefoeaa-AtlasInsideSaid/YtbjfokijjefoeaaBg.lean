/- Plain laws: the document's rows of layer 18 are so. -/
import Derived.Test.YtbjfokijjefoeaaBf
import Derived.Test.YtbjfokijjefoeaaAm
namespace Go.Proofs.Ytbjfokijjefoeaa
open Go Go.Ev Go.Proofs
set_option linter.unusedVariables false
set_option linter.unusedSimpArgs false
theorem mapped_law (x : Bool) : mappedL_pre x ∧ mappedL x = true := by
  obtain ⟨b1, b2⟩ := l0_build
  obtain ⟨c1, c2⟩ := l0_build4
  obtain ⟨d1', d2'⟩ := l0_build0
  obtain ⟨e1, e2⟩ := a0_all
  obtain ⟨f1, f2⟩ := a0_find
  obtain ⟨g1, g2⟩ := order_law l0 (by decide)
  rw [l0_order] at g2
  obtain ⟨i1, i2⟩ := a0_isM
  have s1 := r1same_law [1, 0] [1, 0] (by decide)
  have s2 := r1same_law [0, 1] [0, 1] (by decide)
  have s1' := s1.2.2 rfl
  have s2' := s2.2.2 rfl
  unfold mappedL_pre mappedL letP letV
  dsimp only
  rw [d1_eq, d2_eq]
  refine ⟨⟨b1, c1, d1', ?_⟩, ?_⟩
  · rw [b2]
    intro _ _
    refine ⟨e1, f1, g1, ?_⟩
    rw [g2, e2, f2]
    refine ⟨s1.1, fun _ => ⟨by decide, by decide, by decide, fun _ => ⟨by decide, by decide, by decide, fun _ _ _ _ => ⟨s2.1, fun _ _ _ => ⟨by decide, by decide, by decide, fun _ _ => i1⟩⟩⟩⟩⟩
  · rw [c2, d2', b2]
    dsimp only
    rw [e2, f2, g2]
    dsimp only
    rw [s1', s2', i2]
    rfl
theorem letP_i {α : Type} {v : α} {f : α → Prop} (h : f v) : letP v f := h
theorem letP_k {α : Type} (v : α) {P : Prop} (h : P) : letP v (fun _ => P) := h
theorem cS_l {α β : Type} {x : α ⊕ β} {a : α} {f : α → Prop} {g : β → Prop} (e : x = .inl a) (h : f a) : cS x f g := by subst e; exact h
theorem cS_r {α β : Type} {x : α ⊕ β} {b : β} {f : α → Prop} {g : β → Prop} (e : x = .inr b) (h : g b) : cS x f g := by subst e; exact h
end Go.Proofs.Ytbjfokijjefoeaa
