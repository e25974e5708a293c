/- Plain laws: what the models of small points and of areas come to. -/
import Derived.Test.YtfgdjlhilladhaaGreatDa
import Derived.Test.YtfgdjlhilladhaaGreatQ0
namespace Go.Proofs.YtfgdjlhilladhaaGreat
set_option linter.unusedVariables false
set_option linter.unusedSimpArgs false
open Go Go.Ev Go.Proofs
/-! ### Loops over a row -/
theorem near_law (x : List Int) (hl : x.length < 4611686018427387904) : near_pre x ∧ near x = !x.any (fun v => decide (v < -1048576) || decide (v > 1048576)) := by
  refine all_loop x hl _ _ _ (fun i hi => ?_) (fun i v hv => ?_) ?_
  · unfold near_l0_pre
    intro h
    simp only [Int.toNat_natCast]; omega
  · have hlt := lt_of_get hv
    unfold near_l0_step
    rw [if_pos (by omega), Int.toNat_natCast, getD_of hv]
    by_cases h1 : v < -1048576
    · simp [h1]
    · by_cases h2 : v > 1048576
      · simp [h1, h2]
      · simp [h1, h2]
  · unfold near_l0_step
    rw [if_neg (by omega)]
theorem within_law (m : Int) (hm : 0 ≤ m) (hm2 : m < 4611686018427387904) (x : List Int) (hl : x.length < 4611686018427387904) : within_pre (m, x) ∧ within (m, x) = !x.any (fun v => decide (v < -m) || decide (v > m)) := by
  refine all_loop x hl _ _ _ (fun i hi => ?_) (fun i v hv => ?_) ?_
  · unfold within_l0_pre
    intro h
    simp only [Int.toNat_natCast]; dsimp only at h ⊢; omega
  · have hlt := lt_of_get hv
    unfold within_l0_step
    rw [if_pos (by dsimp only; omega), Int.toNat_natCast]
    dsimp only
    rw [getD_of hv, w64_id (n := 0 - m) (by omega) (by omega), show 0 - m = -m by omega]
    by_cases h1 : v < -m
    · simp [h1]
    · by_cases h2 : v > m
      · simp [h1, h2]
      · simp [h1, h2]
  · unfold within_l0_step
    rw [if_neg (by dsimp only; omega)]
abbrev Is20 (p : Int × Int) : Prop := (-1048576 ≤ p.1 ∧ p.1 ≤ 1048576) ∧ (-1048576 ≤ p.2 ∧ p.2 ≤ 1048576)
abbrev Sm (p : Int × Int) : Prop := (-4096 ≤ p.1 ∧ p.1 ≤ 4096) ∧ (-4096 ≤ p.2 ∧ p.2 ≤ 4096)
theorem notAny {α : Type} {l : List α} {bad : α → Bool} {P : α → Prop} [DecidablePred P] (h : ∀ x, bad x = !decide (P x)) : (!l.any bad) = decide (∀ x ∈ l, P x) := by
  rw [Bool.eq_iff_iff]
  simp [h]
theorem is2_law (x : List (Int × Int)) (hl : x.length < 4611686018427387904) : is2_pre x ∧ is2 x = decide (∀ p ∈ x, Is20 p) := by
  have hn : ∀ a b : Int, near [a, b] = decide (Is20 (a, b)) := fun a b => by
    rw [(near_law [a, b] (by simp)).2, Bool.eq_iff_iff]; simp
  rw [← notAny (bad := fun p => !decide (Is20 p)) (fun _ => rfl)]
  refine all_loop x hl _ _ _ (fun i hi => ?_) (fun i v hv => ?_) ?_
  · unfold is2_l0_pre
    intro h
    simp only [Int.toNat_natCast]
    exact ⟨by omega, by omega, by omega, (near_law _ (by simp)).1⟩
  · have hlt := lt_of_get hv
    unfold is2_l0_step
    rw [if_pos (by omega), Int.toNat_natCast, getD_of hv]
    unfold letV
    rw [hn]
  · unfold is2_l0_step
    rw [if_neg (by omega)]
theorem small2_law (x : List (Int × Int)) (hl : x.length < 4611686018427387904) : small2_pre x ∧ small2 x = decide (∀ p ∈ x, Sm p) := by
  have hn : ∀ a b : Int, within (4096, [a, b]) = decide (Sm (a, b)) := fun a b => by
    rw [(within_law 4096 (by omega) (by omega) [a, b] (by simp)).2, Bool.eq_iff_iff]; simp
  rw [← notAny (bad := fun p => !decide (Sm p)) (fun _ => rfl)]
  refine all_loop x hl _ _ _ (fun i hi => ?_) (fun i v hv => ?_) ?_
  · unfold small2_l0_pre
    intro h
    simp only [Int.toNat_natCast]
    exact ⟨by omega, by omega, by omega, (within_law 4096 (by omega) (by omega) _ (by simp)).1⟩
  · have hlt := lt_of_get hv
    unfold small2_l0_step
    rw [if_pos (by omega), Int.toNat_natCast, getD_of hv]
    unfold letV
    rw [hn]
  · unfold small2_l0_step
    rw [if_neg (by omega)]
/-! ### Plane geometry -/
theorem sub2_law {a b : Int × Int} (ha : Sm a) (hb : Sm b) : sub2 (a, b) = (a.1 - b.1, a.2 - b.2) := by
  unfold sub2 letV
  rw [(is2_law [a, b] (by simp)).2, decide_eq_true (by simp only [List.mem_cons, List.not_mem_nil, or_false, forall_eq_or_imp, forall_eq]; exact ⟨⟨by omega, by omega⟩, by omega, by omega⟩)]
  simp only [Bool.not_true, Bool.false_eq_true, if_false]
  rw [w64_id (by omega) (by omega), w64_id (by omega) (by omega)]
theorem sub2_tm (x : (Int × Int) × (Int × Int)) : sub2_pre x := (is2_law _ (by simp)).1
def Det (a b c : Int × Int) : Int := (b.1 - a.1) * (c.2 - a.2) - (b.2 - a.2) * (c.1 - a.1)
theorem det_in {a b c : Int × Int} (ha : Sm a) (hb : Sm b) (hc : Sm c) : -134217728 ≤ Det a b c ∧ Det a b c ≤ 134217728 := by
  have m1 := mulb (a := b.1 - a.1) (b := c.2 - a.2) (A := 8192) (B := 8192) (by omega) (by omega) (by omega) (by omega)
  have m2 := mulb (a := b.2 - a.2) (b := c.1 - a.1) (A := 8192) (B := 8192) (by omega) (by omega) (by omega) (by omega)
  unfold Det; omega
theorem cross2_law {a b c : Int × Int} (ha : Sm a) (hb : Sm b) (hc : Sm c) : cross2 ((b.1 - a.1, b.2 - a.2), (c.1 - a.1, c.2 - a.2)) = (Det a b c, 0) := by
  unfold cross2 letV
  rw [(is2_law _ (by simp)).2, decide_eq_true (by simp only [List.mem_cons, List.not_mem_nil, or_false, forall_eq_or_imp, forall_eq]; exact ⟨⟨by omega, by omega⟩, by omega, by omega⟩)]
  simp only [Bool.not_true, Bool.false_eq_true, if_false]
  have m1 := mulb (a := b.1 - a.1) (b := c.2 - a.2) (A := 8192) (B := 8192) (by omega) (by omega) (by omega) (by omega)
  have m2 := mulb (a := b.2 - a.2) (b := c.1 - a.1) (A := 8192) (B := 8192) (by omega) (by omega) (by omega) (by omega)
  rw [w64_id (n := (b.1 - a.1) * (c.2 - a.2)) (by omega) (by omega), w64_id (n := (b.2 - a.2) * (c.1 - a.1)) (by omega) (by omega), w64_id (by omega) (by omega)]
  rfl
theorem small2_three (a b c : Int × Int) : small2 [a, b, c] = decide (Sm a ∧ Sm b ∧ Sm c) := by
  rw [(small2_law _ (by simp)).2, Bool.eq_iff_iff, decide_eq_true_iff, decide_eq_true_iff]
  simp only [List.mem_cons, List.not_mem_nil, or_false, forall_eq_or_imp, forall_eq]
theorem small2_one (a : Int × Int) : small2 [a] = decide (Sm a) := by
  rw [(small2_law _ (by simp)).2, Bool.eq_iff_iff, decide_eq_true_iff, decide_eq_true_iff]
  simp only [List.mem_cons, List.not_mem_nil, or_false, forall_eq]
theorem sarea_law (a b c : Int × Int) : sarea_pre (a, (b, c)) ∧ sarea (a, (b, c)) = if Sm a ∧ Sm b ∧ Sm c then (Det a b c, 0) else (0, 5) := by
  refine ⟨⟨(small2_law _ (by simp)).1, fun _ => ⟨sub2_tm _, sub2_tm _, (is2_law _ (by simp)).1⟩⟩, ?_⟩
  show parea (a, (b, c)) = _
  unfold parea letV
  rw [small2_three]
  by_cases h : Sm a ∧ Sm b ∧ Sm c
  · rw [if_pos h, decide_eq_true h, sub2_law h.2.1 h.1, sub2_law h.2.2 h.1]
    exact cross2_law h.1 h.2.1 h.2.2
  · rw [if_neg h, decide_eq_false h]
    rfl
def sg (n : Int) : Int := if n < 0 then -1 else if n > 0 then 1 else 0
theorem compare_law (a b : Int) : compare (a, b) = sg (a - b) := by
  unfold compare isnan letV sg
  have h : ∀ z : Int, (z != z) = false := fun z => by simp
  simp only [h, Bool.false_eq_true, if_false]
  split <;> (try split) <;> (try split) <;> (try split) <;> (try omega)
theorem sside_law (a b c : Int × Int) : sside (a, (b, c)) = if Sm a ∧ Sm b ∧ Sm c then (sg (Det a b c), 0) else (0, 5) := by
  unfold sside letV
  rw [(sarea_law a b c).2]
  split
  · simp [compare_law]
  · simp [compare_law, sg]
theorem mright_law (a b c : Int × Int) : mright (a, (b, c)) = decide ((Sm a ∧ Sm b ∧ Sm c) ∧ Det a b c ≠ 0) := by
  unfold mright
  rw [(sarea_law a b c).2]
  dsimp only [letV]
  by_cases h : Sm a ∧ Sm b ∧ Sm c
  · rw [if_pos h, if_pos (by rfl), Bool.eq_iff_iff, decide_eq_true_iff]
    simp only [bne_iff_ne, ne_eq]
    exact ⟨fun h2 => ⟨h, h2⟩, fun h2 => h2.2⟩
  · rw [if_neg h, decide_eq_false (fun h2 => h h2.1)]
    rfl
theorem det_turn (a b c : Int × Int) : Det b c a = Det a b c := by unfold Det; grind
theorem det_sum (a b c x : Int × Int) : Det b c x + Det c a x + Det a b x = Det a b c := by unfold Det; grind
theorem det_x (a b c x : Int × Int) : Det a b c * x.1 = Det b c x * a.1 + Det c a x * b.1 + Det a b x * c.1 := by unfold Det; grind
theorem det_y (a b c x : Int × Int) : Det a b c * x.2 = Det b c x * a.2 + Det c a x * b.2 + Det a b x * c.2 := by unfold Det; grind
theorem sg_cases (n : Int) : (n < 0 ∧ sg n = -1) ∨ (n = 0 ∧ sg n = 0) ∨ (0 < n ∧ sg n = 1) := by
  unfold sg
  rcases Int.lt_trichotomy n 0 with h | h | h
  · exact .inl ⟨h, by rw [if_pos h]⟩
  · exact .inr (.inl ⟨h, by rw [if_neg (by omega), if_neg (by omega)]⟩)
  · exact .inr (.inr ⟨h, by rw [if_neg (by omega), if_pos h]⟩)
abbrev Right (a b c : Int × Int) : Prop := (Sm a ∧ Sm b ∧ Sm c) ∧ Det a b c ≠ 0
/-- On which side of an edge: the inner one is above 0. -/
def Sd (a b c p : Int × Int) : Int := sg (Det a b c) * sg (Det a b p)
def InV (p a b c : Int × Int) : Int := minI (minI (minI 1 (Sd a b c p)) (Sd b c a p)) (Sd c a b p) + 1
theorem sd_in (a b c p : Int × Int) : -1 ≤ Sd a b c p ∧ Sd a b c p ≤ 1 := by
  unfold Sd
  rcases sg_cases (Det a b c) with ⟨_, e⟩ | ⟨_, e⟩ | ⟨_, e⟩ <;> rcases sg_cases (Det a b p) with ⟨_, f⟩ | ⟨_, f⟩ | ⟨_, f⟩ <;> rw [e, f] <;> omega
end Go.Proofs.YtfgdjlhilladhaaGreat
