/- Plain laws: what the models of small points and of areas come to. -/
import Derived.Test.YtleemdeodmdnkaaFa
noncomputable section
set_option linter.unusedSectionVars false
set_option linter.unusedVariables false
set_option linter.unusedSimpArgs false
namespace Go.Proofs.Ytleemdeodmdnkaa
open Go Go.Ev Go.Proofs
theorem loop_inv {S R : Type} [Inhabited R] {step : S → S ⊕ R} {pre : S → Prop} (J : S → Prop) (μ : S → Nat) (Post : R → Prop)
  (h : ∀ s,J s → pre s ∧ (∀ s',step s = .inl s' → J s' ∧ μ s' < μ s) ∧ ∀ r,step s = .inr r → Post r) (s : S) (hs : J s) : Term step pre s ∧ Post (run step s) := by
 refine ⟨Term.of J μ (fun s hs => ⟨(h s hs).1,(h s hs).2.1⟩) s hs,?_⟩
 obtain ⟨n,hn⟩ : ∃ n,n = μ s := ⟨_,rfl⟩
 induction n using Nat.strongRecOn generalizing s with
 | _ n ih =>
  obtain ⟨_,h2,h3⟩ := h s hs
  rw [run_eq]
  cases e : step s with
  | inl s' =>
   obtain ⟨h4,h5⟩ := h2 s' e
   exact ih (μ s') (by omega) s' h4 rfl
  | inr r => exact h3 r e

theorem row_loop {α R : Type} [Inhabited R] (l : List α) (step : Int → Int ⊕ R) (pre : Int → Prop) (out : List α → R)
  (hp : ∀ i : Nat,i ≤ l.length → pre i)
  (hs : ∀ (i:Nat) (x : α),l[i]? = some x → (step i = .inl ((i:Int) + 1) ∧ out (l.drop i) = out (l.drop (i + 1))) ∨ step i = .inr (out (l.drop i)))
  (he : step l.length = .inr (out [])) : Term step pre 0 ∧ run step 0 = out l := by
 refine ⟨Term.of (fun s : Int => ∃ i : Nat,s = i ∧ i ≤ l.length) (fun s : Int => l.length - s.toNat) (fun s ⟨i,e,hi⟩ => ?_) 0 ⟨0,rfl,Nat.zero_le _⟩,?_⟩
 ·subst e
  refine ⟨hp i hi,fun s' h => ?_⟩
  rcases Nat.lt_or_ge i l.length with hlt | hge
  ·rcases hs i _ (List.getElem?_eq_getElem hlt) with ⟨h1,_⟩ | h1
   ·rw [h1] at h
    cases h
    exact ⟨⟨i + 1,by omega,hlt⟩,by simp only [Int.toNat_natCast]; omega⟩
   ·rw [h1] at h; cases h
  ·have : i = l.length := by omega
   subst this
   rw [he] at h; cases h
 ·have main : ∀ k i : Nat,i + k = l.length → run step i = out (l.drop i) := by
   intro k
   induction k with
   | zero =>
    intro i hi
    have : i = l.length := by omega
    subst this
    rw [run_eq,he,List.drop_length]
   | succ k ih =>
    intro i hi
    have hlt : i < l.length := by omega
    rw [run_eq]
    rcases hs i _ (List.getElem?_eq_getElem hlt) with ⟨h1,h2⟩ | h1
    ·rw [h1,h2]
     exact ih (i + 1) (by omega)
    ·rw [h1]
  simpa using main l.length 0 (by omega)
def allOut {α : Type} (bad : α → Bool) (l : List α) : Unit ⊕ Unit := if l.any bad = true then .inl () else .inr ()
theorem getD_of {α : Type} {l : List α} {i : Nat} {x d : α} (h : l[i]? = some x) : l.getD i d = x := by rw [List.getD_eq_getElem?_getD,h]; rfl
theorem lt_of_get {α : Type} {l : List α} {i : Nat} {x : α} (h : l[i]? = some x) : i < l.length := (List.getElem?_eq_some_iff.1 h).1
theorem drop_of {α : Type} {l : List α} {i : Nat} {x : α} (h : l[i]? = some x) : l.drop i = x :: l.drop (i + 1) := by
 obtain ⟨h1,h2⟩ := List.getElem?_eq_some_iff.1 h
 rw [List.drop_eq_getElem_cons h1,h2]
theorem all_loop {α : Type} (l : List α) (hl : l.length < 4611686018427387904) (bad : α → Bool) (step : Int → Int ⊕ (Unit ⊕ Unit)) (pre : Int → Prop)
  (hp : ∀ i : Nat,i ≤ l.length → pre i)
  (hs : ∀ (i:Nat) (x : α),l[i]? = some x → step i = if bad x = true then .inr (.inl ()) else .inl (w64 ((i:Int) + 1)))
  (he : step l.length = .inr (.inr ())) : Term step pre 0 ∧ Sum.elim (fun _ => false) (fun _ => true) (run step 0) = !l.any bad := by
 obtain ⟨h1,h2⟩ := row_loop l step pre (allOut bad) hp (fun i x hx => by
  have hlt := lt_of_get hx
  rw [hs i x hx,drop_of hx]
  unfold allOut
  simp only [List.any_cons]
  by_cases hb : bad x = true
  ·exact .inr (by simp [hb])
  ·refine .inl ⟨?_,by simp [hb]⟩
   rw [if_neg hb,w64_id (by omega) (by omega)]) (by rw [he]; simp [allOut])
 refine ⟨h1,?_⟩
 rw [h2]
 unfold allOut
 cases l.any bad <;> rfl
theorem near_law (x : List Int) (hl : x.length < 4611686018427387904) : near_pre x ∧ near x = !x.any (fun v => decide (v < -1048576) || decide (v > 1048576)) := by
 refine all_loop x hl _ _ _ (fun i hi => ?_) (fun i v hv => ?_) ?_
 ·unfold near_l0_pre
  intro h
  simp only [Int.toNat_natCast]; omega
 ·have hlt := lt_of_get hv
  unfold near_l0_step
  rw [if_pos (by omega),Int.toNat_natCast,getD_of hv]
  by_cases h1 : v < -1048576
  ·simp [h1]
  ·by_cases h2 : v > 1048576
   ·simp [h1,h2]
   ·simp [h1,h2]
 ·unfold near_l0_step
  rw [if_neg (by omega)]
abbrev Is20 (p : Int × Int) : Prop := (-1048576 ≤ p.1 ∧ p.1 ≤ 1048576) ∧ (-1048576 ≤ p.2 ∧ p.2 ≤ 1048576)
theorem notAny {α : Type} {l : List α} {bad : α → Bool} {P : α → Prop} [DecidablePred P] (h : ∀ x,bad x = !decide (P x)) : (!l.any bad) = decide (∀ x ∈ l,P x) := by
 rw [Bool.eq_iff_iff]
 simp [h]
theorem is2_law (x : List (Int × Int)) (hl : x.length < 4611686018427387904) : is2_pre x ∧ is2 x = decide (∀ p ∈ x,Is20 p) := by
 have hn : ∀ a b : Int,near [a,b] = decide (Is20 (a,b)) := fun a b => by
  rw [(near_law [a,b] (by simp)).2,Bool.eq_iff_iff]; simp
 rw [← notAny (bad := fun p => !decide (Is20 p)) (fun _ => rfl)]
 refine all_loop x hl _ _ _ (fun i hi => ?_) (fun i v hv => ?_) ?_
 ·unfold is2_l0_pre
  intro h
  simp only [Int.toNat_natCast]
  exact ⟨by omega,by omega,by omega,(near_law _ (by simp)).1⟩
 ·have hlt := lt_of_get hv
  unfold is2_l0_step
  rw [if_pos (by omega),Int.toNat_natCast,getD_of hv]
  unfold letV
  rw [hn]
 ·unfold is2_l0_step
  rw [if_neg (by omega)]
end Go.Proofs.Ytleemdeodmdnkaa

namespace Go.Proofs.Ytleemdeodmdnkaa
open Go Go.Ev Go.Proofs
abbrev Is30 (p : Int × (Int × Int)) : Prop := (-1048576 ≤ p.1 ∧ p.1 ≤ 1048576) ∧ (-1048576 ≤ p.2.1 ∧ p.2.1 ≤ 1048576) ∧ (-1048576 ≤ p.2.2 ∧ p.2.2 ≤ 1048576)
theorem is3_law (x : List (Int × (Int × Int))) (hl : x.length < 4611686018427387904) : is3_pre x ∧ is3 x = decide (∀ p ∈ x,Is30 p) := by
 have hn : ∀ a b c : Int,near [a,b,c] = decide (Is30 (a,(b,c))) := fun a b c => by
  rw [(near_law [a,b,c] (by simp)).2,Bool.eq_iff_iff]; simp
 rw [← notAny (bad := fun p => !decide (Is30 p)) (fun _ => rfl)]
 refine all_loop x hl _ _ _ (fun i hi => ?_) (fun i v hv => ?_) ?_
 ·unfold is3_l0_pre
  intro h
  simp only [Int.toNat_natCast]
  exact ⟨by omega,by omega,by omega,(near_law _ (by simp)).1⟩
 ·have hlt := lt_of_get hv
  unfold is3_l0_step
  rw [if_pos (by omega),Int.toNat_natCast,getD_of hv]
  unfold letV
  rw [hn]
 ·unfold is3_l0_step
  rw [if_neg (by omega)]
end Go.Proofs.Ytleemdeodmdnkaa

namespace Go.Proofs.Ytleemdeodmdnkaa
open Go Go.Ev Go.Proofs
abbrev P3 : Type := Int × (Int × Int)
abbrev T3 : Type := P3 × (P3 × P3)
abbrev P2 : Type := Int × Int
abbrev Msh : Type := List P3 × (List P2 × (List P3 × List T3))
theorem among_law (i n:Int) (b : Bool) : among (i,(n,b)) = (decide (0 ≤ i ∧ i < n) || (b && i == -1)) := by
 unfold among
 dsimp only
 cases b <;> simp only [Bool.false_eq_true,if_false,if_true,Bool.false_and,Bool.or_false,Bool.true_and]
 ·by_cases h : i ≥ 0
  ·by_cases h2 : i < n
   ·rw [if_pos h,if_pos h2,decide_eq_true ⟨h,h2⟩]
   ·rw [if_pos h,if_neg h2,decide_eq_false (fun q => h2 q.2)]
  ·rw [if_neg h,decide_eq_false (fun q => h q.1)]
 ·by_cases h : i ≥ 0
  ·by_cases h2 : i < n
   ·rw [if_pos h,if_pos h2,decide_eq_true ⟨h,h2⟩]; rfl
   ·rw [if_pos h,if_neg h2,decide_eq_false (fun q => h2 q.2)]; rfl
  ·rw [if_neg h,decide_eq_false (fun q => h q.1)]; rfl
theorem ite_and {α : Type} {b c : Bool} {A B X : α} (h : X = if (!c) = true then A else B) : (if (!b) = true then A else X) = if (!(b && c)) = true then A else B := by
 cases b <;> simp [h]
def triB (m : Msh) (t : T3) : Bool :=
 among (t.1.1,(((m.1.length:Nat):Int),false)) && (among (t.1.2.1,(((m.2.1.length:Nat):Int),true)) && (among (t.1.2.2,(((m.2.2.1.length:Nat):Int),true)) && ((decide (t.1.2.1 < 0) == decide (t.1.2.1 < 0)) && ((decide (t.1.2.2 < 0) == decide (t.1.2.2 < 0)) &&
 (among (t.2.1.1,(((m.1.length:Nat):Int),false)) && (among (t.2.1.2.1,(((m.2.1.length:Nat):Int),true)) && (among (t.2.1.2.2,(((m.2.2.1.length:Nat):Int),true)) && ((decide (t.2.1.2.1 < 0) == decide (t.1.2.1 < 0)) && ((decide (t.2.1.2.2 < 0) == decide (t.1.2.2 < 0)) &&
 (among (t.2.2.1,(((m.1.length:Nat):Int),false)) && (among (t.2.2.2.1,(((m.2.1.length:Nat):Int),true)) && (among (t.2.2.2.2,(((m.2.2.1.length:Nat):Int),true)) && ((decide (t.2.2.2.1 < 0) == decide (t.1.2.1 < 0)) && (decide (t.2.2.2.2 < 0) == decide (t.1.2.2 < 0)))))))))))))))
theorem triB_v {m : Msh} {t : T3} (h : triB m t = true) : (0 ≤ t.1.1 ∧ t.1.1 < m.1.length) ∧ (0 ≤ t.2.1.1 ∧ t.2.1.1 < m.1.length) ∧ (0 ≤ t.2.2.1 ∧ t.2.2.1 < m.1.length) := by
 unfold triB at h
 simp only [Bool.and_eq_true,among_law,Bool.false_and,Bool.or_false,decide_eq_true_eq] at h
 exact ⟨h.1,h.2.2.2.2.2.1,h.2.2.2.2.2.2.2.2.2.2.1⟩
def fewB (m : Msh) : Bool := decide (m.1.length ≤ 2000 ∧ m.2.1.length ≤ 2000 ∧ m.2.2.1.length ≤ 2000 ∧ m.2.2.2.length ≤ 500)
theorem max3 (a b c k:Int) : maxI (maxI a b) c ≤ k ↔ a ≤ k ∧ b ≤ k ∧ c ≤ k := by
 unfold maxI; split <;> split <;> omega
theorem mfew_law (m : Msh) : mfew m = fewB m := by
 obtain ⟨a,b,c,d⟩ := m
 unfold mfew fewB
 dsimp only
 rw [Bool.eq_iff_iff,decide_eq_true_iff]
 split
 ·rename_i h
  rw [max3] at h
  rw [decide_eq_true_iff]; omega
 ·rename_i h
  rw [max3] at h
  refine ⟨fun h => (by cases h),fun q => absurd ?_ h⟩
  omega
def meshB (m : Msh) : Bool := fewB m && decide (∀ p ∈ m.1,Is30 p) && decide (∀ p ∈ m.2.1,Is20 p) && decide (∀ p ∈ m.2.2.1,Is30 p) && m.2.2.2.all (triB m)
theorem any_not {α : Type} (l : List α) (f : α → Bool) : (!l.any fun x => !f x) = l.all f := by
 induction l with
 | nil => rfl
 | cons a r ih => simp only [List.any_cons,List.all_cons,Bool.not_or,Bool.not_not,ih]
theorem meshis_l (m : Msh) (h : m.2.2.2.length ≤ 500) : Term (meshis_l0_step m) (meshis_l0_pre m) 0 ∧ Sum.elim (fun _ => false) (fun _ => true) (run (meshis_l0_step m) 0) = m.2.2.2.all (triB m) := by
 rw [← any_not]
 refine all_loop m.2.2.2 (by omega) (fun t => !triB m t) _ _ (fun i hi => ?_) (fun i t ht => ?_) ?_
 ·unfold meshis_l0_pre
  intro h
  simp only [Int.toNat_natCast]
  exact ⟨⟨by omega,h⟩,by omega,by omega⟩
 ·have hlt := lt_of_get ht
  unfold meshis_l0_step
  rw [if_pos (by omega),Int.toNat_natCast,getD_of ht]
  dsimp only [letV]
  unfold triB
  exact ite_and (ite_and (ite_and (ite_and (ite_and (ite_and (ite_and (ite_and (ite_and (ite_and (ite_and (ite_and (ite_and (ite_and rfl)))))))))))))
 ·unfold meshis_l0_step
  rw [if_neg (by omega)]
theorem few_len {m : Msh} (h : fewB m = true) : m.1.length ≤ 2000 ∧ m.2.1.length ≤ 2000 ∧ m.2.2.1.length ≤ 2000 ∧ m.2.2.2.length ≤ 500 := by
 unfold fewB at h; exact of_decide_eq_true h
theorem meshis_law (m : Msh) : meshis_pre m ∧ meshis m = meshB m := by
 unfold meshis_pre meshis meshB
 dsimp only [letP,letV]
 rw [mfew_law]
 cases hf : fewB m with
 | false => exact ⟨fun h => absurd rfl h,rfl⟩
 | true =>
  obtain ⟨h1,h2,h3,h4⟩ := few_len hf
  rw [(is3_law m.1 (by omega)).2,(is2_law m.2.1 (by omega)).2,(is3_law m.2.2.1 (by omega)).2,(meshis_l m h4).2]
  refine ⟨fun _ => ⟨(is3_law m.1 (by omega)).1,fun _ => ⟨(is2_law m.2.1 (by omega)).1,fun _ => ⟨(is3_law m.2.2.1 (by omega)).1,fun _ => (meshis_l m h4).1⟩⟩⟩,?_⟩
  generalize decide (∀ p ∈ m.1,Is30 p) = b1
  generalize decide (∀ p ∈ m.2.1,Is20 p) = b2
  generalize decide (∀ p ∈ m.2.2.1,Is30 p) = b3
  cases b1 <;> cases b2 <;> cases b3 <;> simp
theorem index_loop {α : Type} (l : List α) (hl : l.length < 4611686018427387904) (bad : α → Bool) (step : Int → Int ⊕ (Int ⊕ Unit)) (pre : Int → Prop)
  (hp : ∀ i : Nat,i ≤ l.length → pre i)
  (hs : ∀ (i:Nat) (x : α),l[i]? = some x → step i = if bad x = true then .inr (.inl i) else .inl (w64 ((i:Int) + 1)))
  (he : step l.length = .inr (.inr ())) : Term step pre 0 ∧ Sum.elim (fun a => a) (fun _ => -1) (run step 0) = match l.findIdx? bad with | some i => (i:Int) | none => -1 := by
 have key : ∀ i : Nat,i ≤ l.length → (∀ j x,j < i → l[j]? = some x → bad x = false) → True := fun _ _ _ => trivial
 obtain ⟨h1,h2⟩ := loop_inv (step := step) (pre := pre) (fun s => ∃ i : Nat,s = i ∧ i ≤ l.length ∧ ∀ j x,j < i → l[j]? = some x → bad x = false) (fun s => l.length - s.toNat)
  (fun r => Sum.elim (fun a => a) (fun _ => -1) r = match l.findIdx? bad with | some i => (i:Int) | none => -1) (fun s ⟨i,e,hi,hb⟩ => by
   subst e
   refine ⟨hp i hi,fun s' h => ?_,fun r h => ?_⟩
   ·rcases Nat.lt_or_ge i l.length with hlt | hge
    ·have hg := List.getElem?_eq_getElem hlt
     rw [hs i _ hg] at h
     split at h
     ·cases h
     ·rename_i hn
      cases h
      refine ⟨⟨i + 1,by rw [w64_id (by omega) (by omega)]; rfl,hlt,fun j x hj hx => ?_⟩,?_⟩
      ·rcases Nat.lt_or_ge j i with h1 | h1
       ·exact hb j x h1 hx
       ·have : j = i := by omega
        subst this
        rw [hg] at hx; cases hx
        simpa using hn
      ·rw [w64_id (by omega) (by omega),Int.toNat_natCast,show ((i:Int) + 1).toNat = i + 1 by omega]; omega
    ·have : i = l.length := by omega
     subst this
     rw [he] at h; cases h
   ·rcases Nat.lt_or_ge i l.length with hlt | hge
    ·have hg := List.getElem?_eq_getElem hlt
     rw [hs i _ hg] at h
     split at h
     ·rename_i hy
      cases h
      have : l.findIdx? bad = some i := by
       rw [List.findIdx?_eq_some_iff_getElem]
       refine ⟨hlt,hy,fun j hj => ?_⟩
       rw [hb j _ hj (List.getElem?_eq_getElem (by omega))]; simp
      rw [this]; rfl
     ·cases h
    ·have : i = l.length := by omega
     subst this
     rw [he] at h; cases h
     have : l.findIdx? bad = none := by
      rw [List.findIdx?_eq_none_iff]
      intro x hx
      obtain ⟨j,hj,rfl⟩ := List.getElem_of_mem hx
      exact hb j _ hj (List.getElem?_eq_getElem hj)
     rw [this]; rfl) 0 ⟨0,rfl,Nat.zero_le _,fun j x hj => absurd hj (Nat.not_lt_zero _)⟩
 exact ⟨h1,h2⟩
theorem mesh_len {m : Msh} (h : meshB m = true) : m.1.length ≤ 2000 ∧ m.2.1.length ≤ 2000 ∧ m.2.2.1.length ≤ 2000 ∧ m.2.2.2.length ≤ 500 := by
 unfold meshB at h
 simp only [Bool.and_eq_true] at h
 exact few_len h.1.1.1.1
def Trg (m : Msh) (i:Int) : T3 := m.2.2.2.getD i.toNat ((0,(0,0)),((0,(0,0)),(0,(0,0))))
abbrev Has (m : Msh) (i:Int) : Prop := 0 ≤ i ∧ i < m.2.2.2.length
theorem tr_mem {m : Msh} {i : Int} (h : Has m i) : Trg m i ∈ m.2.2.2 := by
 unfold Trg
 rw [List.getD_eq_getElem?_getD,List.getElem?_eq_getElem (by omega)]
 exact List.getElem_mem _
end Go.Proofs.Ytleemdeodmdnkaa
