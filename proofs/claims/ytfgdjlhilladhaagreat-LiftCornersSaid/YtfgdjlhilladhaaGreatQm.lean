/- Plain laws: meshes. -/
import Derived.Test.YtfgdjlhilladhaaGreatQe
namespace Go.Proofs.YtfgdjlhilladhaaGreat
open Go Go.Ev Go.Proofs
abbrev Is30 (p : Int × (Int × Int)) : Prop := (-1048576 ≤ p.1 ∧ p.1 ≤ 1048576) ∧ (-1048576 ≤ p.2.1 ∧ p.2.1 ≤ 1048576) ∧ (-1048576 ≤ p.2.2 ∧ p.2.2 ≤ 1048576)
theorem is3_law (x : List (Int × (Int × Int))) (hl : x.length < 4611686018427387904) : is3_pre x ∧ is3 x = decide (∀ p ∈ x, Is30 p) := by
  have hn : ∀ a b c : Int, near [a, b, c] = decide (Is30 (a, (b, c))) := fun a b c => by
    rw [(near_law [a, b, c] (by simp)).2, Bool.eq_iff_iff]; simp
  rw [← notAny (bad := fun p => !decide (Is30 p)) (fun _ => rfl)]
  refine all_loop x hl _ _ _ (fun i hi => ?_) (fun i v hv => ?_) ?_
  · unfold is3_l0_pre
    intro h
    simp only [Int.toNat_natCast]
    exact ⟨by omega, by omega, by omega, (near_law _ (by simp)).1⟩
  · have hlt := lt_of_get hv
    unfold is3_l0_step
    rw [if_pos (by omega), Int.toNat_natCast, getD_of hv]
    unfold letV
    rw [hn]
  · unfold is3_l0_step
    rw [if_neg (by omega)]
abbrev P3 : Type := Int × (Int × Int)
abbrev T3 : Type := P3 × (P3 × P3)
abbrev Msh : Type := List P3 × (List P2 × (List P3 × List T3))
theorem among_law (i n : Int) (b : Bool) : among (i, (n, b)) = (decide (0 ≤ i ∧ i < n) || (b && i == -1)) := by
  unfold among
  dsimp only
  cases b <;> simp only [Bool.false_eq_true, if_false, if_true, Bool.false_and, Bool.or_false, Bool.true_and]
  · by_cases h : i ≥ 0
    · by_cases h2 : i < n
      · rw [if_pos h, if_pos h2, decide_eq_true ⟨h, h2⟩]
      · rw [if_pos h, if_neg h2, decide_eq_false (fun q => h2 q.2)]
    · rw [if_neg h, decide_eq_false (fun q => h q.1)]
  · by_cases h : i ≥ 0
    · by_cases h2 : i < n
      · rw [if_pos h, if_pos h2, decide_eq_true ⟨h, h2⟩]; rfl
      · rw [if_pos h, if_neg h2, decide_eq_false (fun q => h2 q.2)]; rfl
    · rw [if_neg h, decide_eq_false (fun q => h q.1)]; rfl
theorem ite_and {α : Type} {b c : Bool} {A B X : α} (h : X = if (!c) = true then A else B) : (if (!b) = true then A else X) = if (!(b && c)) = true then A else B := by
  cases b <;> simp [h]
noncomputable def triB (m : Msh) (t : T3) : Bool :=
  among (t.1.1, (((m.1.length : Nat) : Int), false)) && (among (t.1.2.1, (((m.2.1.length : Nat) : Int), true)) && (among (t.1.2.2, (((m.2.2.1.length : Nat) : Int), true)) && ((decide (t.1.2.1 < 0) == decide (t.1.2.1 < 0)) && ((decide (t.1.2.2 < 0) == decide (t.1.2.2 < 0)) &&
  (among (t.2.1.1, (((m.1.length : Nat) : Int), false)) && (among (t.2.1.2.1, (((m.2.1.length : Nat) : Int), true)) && (among (t.2.1.2.2, (((m.2.2.1.length : Nat) : Int), true)) && ((decide (t.2.1.2.1 < 0) == decide (t.1.2.1 < 0)) && ((decide (t.2.1.2.2 < 0) == decide (t.1.2.2 < 0)) &&
  (among (t.2.2.1, (((m.1.length : Nat) : Int), false)) && (among (t.2.2.2.1, (((m.2.1.length : Nat) : Int), true)) && (among (t.2.2.2.2, (((m.2.2.1.length : Nat) : Int), true)) && ((decide (t.2.2.2.1 < 0) == decide (t.1.2.1 < 0)) && (decide (t.2.2.2.2 < 0) == decide (t.1.2.2 < 0)))))))))))))))
theorem triB_v {m : Msh} {t : T3} (h : triB m t = true) : (0 ≤ t.1.1 ∧ t.1.1 < m.1.length) ∧ (0 ≤ t.2.1.1 ∧ t.2.1.1 < m.1.length) ∧ (0 ≤ t.2.2.1 ∧ t.2.2.1 < m.1.length) := by
  unfold triB at h
  simp only [Bool.and_eq_true, among_law, Bool.false_and, Bool.or_false, decide_eq_true_eq] at h
  exact ⟨h.1, h.2.2.2.2.2.1, h.2.2.2.2.2.2.2.2.2.2.1⟩
def fewB (m : Msh) : Bool := decide (m.1.length ≤ 2000 ∧ m.2.1.length ≤ 2000 ∧ m.2.2.1.length ≤ 2000 ∧ m.2.2.2.length ≤ 500)
theorem max3 (a b c k : Int) : maxI (maxI a b) c ≤ k ↔ a ≤ k ∧ b ≤ k ∧ c ≤ k := by
  unfold maxI; split <;> split <;> omega
theorem min3 (a b c k : Int) : k ≤ minI (minI a b) c ↔ k ≤ a ∧ k ≤ b ∧ k ≤ c := by
  unfold minI; split <;> split <;> omega
theorem mfew_law (m : Msh) : mfew m = fewB m := by
  obtain ⟨a, b, c, d⟩ := m
  unfold mfew fewB
  dsimp only
  rw [Bool.eq_iff_iff, decide_eq_true_iff]
  split
  · rename_i h
    rw [max3] at h
    rw [decide_eq_true_iff]; omega
  · rename_i h
    rw [max3] at h
    refine ⟨fun h => (by cases h), fun q => absurd ?_ h⟩
    omega
noncomputable def meshB (m : Msh) : Bool := fewB m && decide (∀ p ∈ m.1, Is30 p) && decide (∀ p ∈ m.2.1, Is20 p) && decide (∀ p ∈ m.2.2.1, Is30 p) && m.2.2.2.all (triB m)
theorem any_not {α : Type} (l : List α) (f : α → Bool) : (!l.any fun x => !f x) = l.all f := by
  induction l with
  | nil => rfl
  | cons a r ih => simp only [List.any_cons, List.all_cons, Bool.not_or, Bool.not_not, ih]
theorem meshis_l (m : Msh) (h : m.2.2.2.length ≤ 500) : Term (meshis_l0_step m) (meshis_l0_pre m) 0 ∧ Sum.elim (fun _ => false) (fun _ => true) (run (meshis_l0_step m) 0) = m.2.2.2.all (triB m) := by
  rw [← any_not]
  refine all_loop m.2.2.2 (by omega) (fun t => !triB m t) _ _ (fun i hi => ?_) (fun i t ht => ?_) ?_
  · unfold meshis_l0_pre
    intro h
    simp only [Int.toNat_natCast]
    exact ⟨⟨by omega, h⟩, by omega, by omega⟩
  · have hlt := lt_of_get ht
    unfold meshis_l0_step
    rw [if_pos (by omega), Int.toNat_natCast, getD_of ht]
    dsimp only [letV]
    unfold triB
    exact ite_and (ite_and (ite_and (ite_and (ite_and (ite_and (ite_and (ite_and (ite_and (ite_and (ite_and (ite_and (ite_and (ite_and rfl)))))))))))))
  · unfold meshis_l0_step
    rw [if_neg (by omega)]
theorem few_len {m : Msh} (h : fewB m = true) : m.1.length ≤ 2000 ∧ m.2.1.length ≤ 2000 ∧ m.2.2.1.length ≤ 2000 ∧ m.2.2.2.length ≤ 500 := by
  unfold fewB at h; exact of_decide_eq_true h
theorem meshis_law (m : Msh) : meshis_pre m ∧ meshis m = meshB m := by
  unfold meshis_pre meshis meshB
  dsimp only [letP, letV]
  rw [mfew_law]
  cases hf : fewB m with
  | false => exact ⟨fun h => absurd rfl h, rfl⟩
  | true =>
    obtain ⟨h1, h2, h3, h4⟩ := few_len hf
    rw [(is3_law m.1 (by omega)).2, (is2_law m.2.1 (by omega)).2, (is3_law m.2.2.1 (by omega)).2, (meshis_l m h4).2]
    refine ⟨fun _ => ⟨(is3_law m.1 (by omega)).1, fun _ => ⟨(is2_law m.2.1 (by omega)).1, fun _ => ⟨(is3_law m.2.2.1 (by omega)).1, fun _ => (meshis_l m h4).1⟩⟩⟩, ?_⟩
    generalize decide (∀ p ∈ m.1, Is30 p) = b1
    generalize decide (∀ p ∈ m.2.1, Is20 p) = b2
    generalize decide (∀ p ∈ m.2.2.1, Is30 p) = b3
    cases b1 <;> cases b2 <;> cases b3 <;> simp
abbrev Nr (p : P3) : Prop := (-4096 ≤ p.1 ∧ p.1 ≤ 4096) ∧ (-4096 ≤ p.2.1 ∧ p.2.1 ≤ 4096) ∧ (-4096 ≤ p.2.2 ∧ p.2.2 ≤ 4096)
theorem far_law (p : P3) : far p = !decide (Nr p) := by
  obtain ⟨x, y, z⟩ := p
  have h1 := max3 x y z 4096
  have h2 := min3 x y z (-4096)
  unfold far
  dsimp only
  rw [Bool.eq_iff_iff, Bool.not_eq_true', decide_eq_false_iff_not]
  split
  · exact ⟨fun _ => by dsimp only [Nr]; omega, fun _ => rfl⟩
  · rw [decide_eq_true_iff]
    dsimp only [Nr]; omega
theorem containsV3_law (l : List P3) (hl : l.length < 4611686018427387904) (b : Bool) : containsV3_pre (l, b) ∧ containsV3 (l, b) = !decide (∀ p ∈ l, Nr p) := by
  have hh := index_loop l hl far (indexV3_l0_step (l, false)) (indexV3_l0_pre (l, false)) (fun i hi => by
      unfold indexV3_l0_pre
      intro h
      simp only [Int.toNat_natCast]; dsimp only at h ⊢; omega) (fun i x hx => by
      have hlt := lt_of_get hx
      unfold indexV3_l0_step
      dsimp only [letV]
      rw [if_pos (by omega), Int.toNat_natCast, getD_of hx]) (by
      unfold indexV3_l0_step
      dsimp only
      rw [if_neg (by omega)])
  refine ⟨hh.1, ?_⟩
  unfold containsV3 indexV3
  dsimp only [letV]
  rw [hh.2, find_any]
  rw [Bool.eq_iff_iff, List.any_eq_true, Bool.not_eq_true', decide_eq_false_iff_not]
  constructor
  · rintro ⟨x, h1, h2⟩ h3
    rw [far_law, Bool.not_eq_true', decide_eq_false_iff_not] at h2
    exact h2 (h3 x h1)
  · intro h
    refine Classical.byContradiction fun h2 => h fun p hp => Classical.byContradiction fun h3 => h2 ⟨p, hp, ?_⟩
    rw [far_law, Bool.not_eq_true', decide_eq_false_iff_not]; exact h3
noncomputable def tameB (m : Msh) : Bool := meshB m && decide (∀ p ∈ m.1, Nr p)
theorem mesh_len {m : Msh} (h : meshB m = true) : m.1.length ≤ 2000 ∧ m.2.1.length ≤ 2000 ∧ m.2.2.1.length ≤ 2000 ∧ m.2.2.2.length ≤ 500 := by
  unfold meshB at h
  simp only [Bool.and_eq_true] at h
  exact few_len h.1.1.1.1
theorem tame_law (m : Msh) : tame_pre m ∧ tame m = tameB m := by
  unfold tame_pre tame tameB
  dsimp only [letP, letV]
  rw [(meshis_law m).2]
  refine ⟨⟨(meshis_law m).1, fun h => (containsV3_law _ (by have := mesh_len h; omega) _).1⟩, ?_⟩
  cases h : meshB m with
  | false => rfl
  | true =>
    rw [if_pos rfl, (containsV3_law _ (by have := mesh_len h; omega) _).2, Bool.not_not, Bool.true_and]
/-! ### A triangle's points -/
def Pt (m : Msh) (i : Int) : P3 := m.1.getD i.toNat (0, (0, 0))
def Tr (m : Msh) (i : Int) : T3 := m.2.2.2.getD i.toNat ((0, (0, 0)), ((0, (0, 0)), (0, (0, 0))))
abbrev Has (m : Msh) (i : Int) : Prop := 0 ≤ i ∧ i < m.2.2.2.length
theorem tr_mem {m : Msh} {i : Int} (h : Has m i) : Tr m i ∈ m.2.2.2 := by
  unfold Tr
  rw [List.getD_eq_getElem?_getD, List.getElem?_eq_getElem (by omega)]
  exact List.getElem_mem _
theorem tame_tri {m : Msh} {i : Int} (hm : tameB m = true) (h : Has m i) : triB m (Tr m i) = true := by
  unfold tameB meshB at hm
  simp only [Bool.and_eq_true, List.all_eq_true] at hm
  exact hm.1.2 _ (tr_mem h)
end Go.Proofs.YtfgdjlhilladhaaGreat
