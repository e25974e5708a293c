/- Plain laws: what the models of small points and of areas come to. -/
import Derived.Test.YtkbmjhabfjgoiaaGreatFa
noncomputable section
set_option linter.unusedSectionVars false
set_option linter.unusedVariables false
set_option linter.unusedSimpArgs false
namespace Go.Proofs.YtkbmjhabfjgoiaaGreat
open Go Go.Ev Go.Proofs
theorem mulb {a b A B : Int} (h1 : -A ≤ a) (h2 : a ≤ A) (h3 : -B ≤ b) (h4 : b ≤ B) : -(A * B) ≤ a * b ∧ a * b ≤ A * B := by
 have e1 := Int.mul_nonneg (show 0 ≤ A - a by omega) (show 0 ≤ B + b by omega)
 have e2 := Int.mul_nonneg (show 0 ≤ A + a by omega) (show 0 ≤ B - b by omega)
 have e3 := Int.mul_nonneg (show 0 ≤ A - a by omega) (show 0 ≤ B - b by omega)
 have e4 := Int.mul_nonneg (show 0 ≤ A + a by omega) (show 0 ≤ B + b by omega)
 constructor <;> grind
theorem loop_inv {S R : Type} [Inhabited R] {step : S → S ⊕ R} {pre : S → Prop} (J : S → Prop) (μ : S → Nat) (Post : R → Prop)
  (h : ∀ s,J s → pre s ∧ (∀ s',step s = .inl s' → J s' ∧ μ s' < μ s) ∧ ∀ r,step s = .inr r → Post r) (s : S) (hs : J s) : Term step pre s ∧ Post (run step s) := by
 refine ⟨Term.of J μ (fun s hs => ⟨(h s hs).1,(h s hs).2.1⟩) s hs,?_⟩
 obtain ⟨n,hn⟩ : ∃ n,n = μ s := ⟨_,rfl⟩
 induction n using Nat.strongRecOn generalizing s with
 | _ n ih =>
  obtain ⟨_,h2,h3⟩ := h s hs
  rw [run_eq]
  cases e : step s with
  | inl s' =>
   obtain ⟨h4,h5⟩ := h2 s' e
   exact ih (μ s') (by omega) s' h4 rfl
  | inr r => exact h3 r e

theorem row_loop {α R : Type} [Inhabited R] (l : List α) (step : Int → Int ⊕ R) (pre : Int → Prop) (out : List α → R)
  (hp : ∀ i : Nat,i ≤ l.length → pre i)
  (hs : ∀ (i:Nat) (x : α),l[i]? = some x → (step i = .inl ((i:Int) + 1) ∧ out (l.drop i) = out (l.drop (i + 1))) ∨ step i = .inr (out (l.drop i)))
  (he : step l.length = .inr (out [])) : Term step pre 0 ∧ run step 0 = out l := by
 refine ⟨Term.of (fun s : Int => ∃ i : Nat,s = i ∧ i ≤ l.length) (fun s : Int => l.length - s.toNat) (fun s ⟨i,e,hi⟩ => ?_) 0 ⟨0,rfl,Nat.zero_le _⟩,?_⟩
 ·subst e
  refine ⟨hp i hi,fun s' h => ?_⟩
  rcases Nat.lt_or_ge i l.length with hlt | hge
  ·rcases hs i _ (List.getElem?_eq_getElem hlt) with ⟨h1,_⟩ | h1
   ·rw [h1] at h
    cases h
    exact ⟨⟨i + 1,by omega,hlt⟩,by simp only [Int.toNat_natCast]; omega⟩
   ·rw [h1] at h; cases h
  ·have : i = l.length := by omega
   subst this
   rw [he] at h; cases h
 ·have main : ∀ k i : Nat,i + k = l.length → run step i = out (l.drop i) := by
   intro k
   induction k with
   | zero =>
    intro i hi
    have : i = l.length := by omega
    subst this
    rw [run_eq,he,List.drop_length]
   | succ k ih =>
    intro i hi
    have hlt : i < l.length := by omega
    rw [run_eq]
    rcases hs i _ (List.getElem?_eq_getElem hlt) with ⟨h1,h2⟩ | h1
    ·rw [h1,h2]
     exact ih (i + 1) (by omega)
    ·rw [h1]
  simpa using main l.length 0 (by omega)
def allOut {α : Type} (bad : α → Bool) (l : List α) : Unit ⊕ Unit := if l.any bad = true then .inl () else .inr ()
theorem getD_of {α : Type} {l : List α} {i : Nat} {x d : α} (h : l[i]? = some x) : l.getD i d = x := by rw [List.getD_eq_getElem?_getD,h]; rfl
theorem lt_of_get {α : Type} {l : List α} {i : Nat} {x : α} (h : l[i]? = some x) : i < l.length := (List.getElem?_eq_some_iff.1 h).1
theorem drop_of {α : Type} {l : List α} {i : Nat} {x : α} (h : l[i]? = some x) : l.drop i = x :: l.drop (i + 1) := by
 obtain ⟨h1,h2⟩ := List.getElem?_eq_some_iff.1 h
 rw [List.drop_eq_getElem_cons h1,h2]
theorem all_loop {α : Type} (l : List α) (hl : l.length < 4611686018427387904) (bad : α → Bool) (step : Int → Int ⊕ (Unit ⊕ Unit)) (pre : Int → Prop)
  (hp : ∀ i : Nat,i ≤ l.length → pre i)
  (hs : ∀ (i:Nat) (x : α),l[i]? = some x → step i = if bad x = true then .inr (.inl ()) else .inl (w64 ((i:Int) + 1)))
  (he : step l.length = .inr (.inr ())) : Term step pre 0 ∧ Sum.elim (fun _ => false) (fun _ => true) (run step 0) = !l.any bad := by
 obtain ⟨h1,h2⟩ := row_loop l step pre (allOut bad) hp (fun i x hx => by
  have hlt := lt_of_get hx
  rw [hs i x hx,drop_of hx]
  unfold allOut
  simp only [List.any_cons]
  by_cases hb : bad x = true
  ·exact .inr (by simp [hb])
  ·refine .inl ⟨?_,by simp [hb]⟩
   rw [if_neg hb,w64_id (by omega) (by omega)]) (by rw [he]; simp [allOut])
 refine ⟨h1,?_⟩
 rw [h2]
 unfold allOut
 cases l.any bad <;> rfl
theorem near_law (x : List Int) (hl : x.length < 4611686018427387904) : near_pre x ∧ near x = !x.any (fun v => decide (v < -1048576) || decide (v > 1048576)) := by
 refine all_loop x hl _ _ _ (fun i hi => ?_) (fun i v hv => ?_) ?_
 ·unfold near_l0_pre
  intro h
  simp only [Int.toNat_natCast]; omega
 ·have hlt := lt_of_get hv
  unfold near_l0_step
  rw [if_pos (by omega),Int.toNat_natCast,getD_of hv]
  by_cases h1 : v < -1048576
  ·simp [h1]
  ·by_cases h2 : v > 1048576
   ·simp [h1,h2]
   ·simp [h1,h2]
 ·unfold near_l0_step
  rw [if_neg (by omega)]
theorem within_law (m:Int) (hm : 0 ≤ m) (hm2 : m < 4611686018427387904) (x : List Int) (hl : x.length < 4611686018427387904) : within_pre (m,x) ∧ within (m,x) = !x.any (fun v => decide (v < -m) || decide (v > m)) := by
 refine all_loop x hl _ _ _ (fun i hi => ?_) (fun i v hv => ?_) ?_
 ·unfold within_l0_pre
  intro h
  simp only [Int.toNat_natCast]; dsimp only at h ⊢; omega
 ·have hlt := lt_of_get hv
  unfold within_l0_step
  rw [if_pos (by dsimp only; omega),Int.toNat_natCast]
  dsimp only
  rw [getD_of hv,w64_id (n := 0 - m) (by omega) (by omega),show 0 - m = -m by omega]
  by_cases h1 : v < -m
  ·simp [h1]
  ·by_cases h2 : v > m
   ·simp [h1,h2]
   ·simp [h1,h2]
 ·unfold within_l0_step
  rw [if_neg (by dsimp only; omega)]
abbrev Is20 (p : Int × Int) : Prop := (-1048576 ≤ p.1 ∧ p.1 ≤ 1048576) ∧ (-1048576 ≤ p.2 ∧ p.2 ≤ 1048576)
abbrev Sm (p : Int × Int) : Prop := (-4096 ≤ p.1 ∧ p.1 ≤ 4096) ∧ (-4096 ≤ p.2 ∧ p.2 ≤ 4096)
abbrev Sm3 (p : Int × (Int × Int)) : Prop := (-16384 ≤ p.1 ∧ p.1 ≤ 16384) ∧ (-16384 ≤ p.2.1 ∧ p.2.1 ≤ 16384) ∧ (-16384 ≤ p.2.2 ∧ p.2.2 ≤ 16384)
theorem notAny {α : Type} {l : List α} {bad : α → Bool} {P : α → Prop} [DecidablePred P] (h : ∀ x,bad x = !decide (P x)) : (!l.any bad) = decide (∀ x ∈ l,P x) := by
 rw [Bool.eq_iff_iff]
 simp [h]
theorem is2_law (x : List (Int × Int)) (hl : x.length < 4611686018427387904) : is2_pre x ∧ is2 x = decide (∀ p ∈ x,Is20 p) := by
 have hn : ∀ a b : Int,near [a,b] = decide (Is20 (a,b)) := fun a b => by
  rw [(near_law [a,b] (by simp)).2,Bool.eq_iff_iff]; simp
 rw [← notAny (bad := fun p => !decide (Is20 p)) (fun _ => rfl)]
 refine all_loop x hl _ _ _ (fun i hi => ?_) (fun i v hv => ?_) ?_
 ·unfold is2_l0_pre
  intro h
  simp only [Int.toNat_natCast]
  exact ⟨by omega,by omega,by omega,(near_law _ (by simp)).1⟩
 ·have hlt := lt_of_get hv
  unfold is2_l0_step
  rw [if_pos (by omega),Int.toNat_natCast,getD_of hv]
  unfold letV
  rw [hn]
 ·unfold is2_l0_step
  rw [if_neg (by omega)]
theorem small2_law (x : List (Int × Int)) (hl : x.length < 4611686018427387904) : small2_pre x ∧ small2 x = decide (∀ p ∈ x,Sm p) := by
 have hn : ∀ a b : Int,within (4096,[a,b]) = decide (Sm (a,b)) := fun a b => by
  rw [(within_law 4096 (by omega) (by omega) [a,b] (by simp)).2,Bool.eq_iff_iff]; simp
 rw [← notAny (bad := fun p => !decide (Sm p)) (fun _ => rfl)]
 refine all_loop x hl _ _ _ (fun i hi => ?_) (fun i v hv => ?_) ?_
 ·unfold small2_l0_pre
  intro h
  simp only [Int.toNat_natCast]
  exact ⟨by omega,by omega,by omega,(within_law 4096 (by omega) (by omega) _ (by simp)).1⟩
 ·have hlt := lt_of_get hv
  unfold small2_l0_step
  rw [if_pos (by omega),Int.toNat_natCast,getD_of hv]
  unfold letV
  rw [hn]
 ·unfold small2_l0_step
  rw [if_neg (by omega)]
theorem small3_law (x : List (Int × (Int × Int))) (hl : x.length < 4611686018427387904) : small3_pre x ∧ small3 x = decide (∀ p ∈ x,Sm3 p) := by
 have hn : ∀ a b c : Int,within (16384,[a,b,c]) = decide (Sm3 (a,(b,c))) := fun a b c => by
  rw [(within_law 16384 (by omega) (by omega) [a,b,c] (by simp)).2,Bool.eq_iff_iff]; simp
 rw [← notAny (bad := fun p => !decide (Sm3 p)) (fun _ => rfl)]
 refine all_loop x hl _ _ _ (fun i hi => ?_) (fun i v hv => ?_) ?_
 ·unfold small3_l0_pre
  intro h
  simp only [Int.toNat_natCast]
  exact ⟨by omega,by omega,by omega,(within_law 16384 (by omega) (by omega) _ (by simp)).1⟩
 ·have hlt := lt_of_get hv
  unfold small3_l0_step
  rw [if_pos (by omega),Int.toNat_natCast,getD_of hv]
  unfold letV
  rw [hn]
 ·unfold small3_l0_step
  rw [if_neg (by omega)]
theorem sub2_law {a b : Int × Int} (ha : Sm a) (hb : Sm b) : sub2 (a,b) = (a.1 - b.1,a.2 - b.2) := by
 unfold sub2 letV
 rw [(is2_law [a,b] (by simp)).2,decide_eq_true (by simp only [List.mem_cons,List.not_mem_nil,or_false,forall_eq_or_imp,forall_eq]; exact ⟨⟨by omega,by omega⟩,by omega,by omega⟩)]
 simp only [Bool.not_true,Bool.false_eq_true,if_false]
 rw [w64_id (by omega) (by omega),w64_id (by omega) (by omega)]
theorem sub2_tm (x : (Int × Int) × (Int × Int)) : sub2_pre x := (is2_law _ (by simp)).1
def Det (a b c : Int × Int) : Int := (b.1 - a.1) * (c.2 - a.2) - (b.2 - a.2) * (c.1 - a.1)
theorem det_in {a b c : Int × Int} (ha : Sm a) (hb : Sm b) (hc : Sm c) : -134217728 ≤ Det a b c ∧ Det a b c ≤ 134217728 := by
 have m1 := mulb (a := b.1 - a.1) (b := c.2 - a.2) (A := 8192) (B := 8192) (by omega) (by omega) (by omega) (by omega)
 have m2 := mulb (a := b.2 - a.2) (b := c.1 - a.1) (A := 8192) (B := 8192) (by omega) (by omega) (by omega) (by omega)
 unfold Det; omega
theorem cross2_law {a b c : Int × Int} (ha : Sm a) (hb : Sm b) (hc : Sm c) : cross2 ((b.1 - a.1,b.2 - a.2),(c.1 - a.1,c.2 - a.2)) = (Det a b c,0) := by
 unfold cross2 letV
 rw [(is2_law _ (by simp)).2,decide_eq_true (by simp only [List.mem_cons,List.not_mem_nil,or_false,forall_eq_or_imp,forall_eq]; exact ⟨⟨by omega,by omega⟩,by omega,by omega⟩)]
 simp only [Bool.not_true,Bool.false_eq_true,if_false]
 have m1 := mulb (a := b.1 - a.1) (b := c.2 - a.2) (A := 8192) (B := 8192) (by omega) (by omega) (by omega) (by omega)
 have m2 := mulb (a := b.2 - a.2) (b := c.1 - a.1) (A := 8192) (B := 8192) (by omega) (by omega) (by omega) (by omega)
 rw [w64_id (n := (b.1 - a.1) * (c.2 - a.2)) (by omega) (by omega),w64_id (n := (b.2 - a.2) * (c.1 - a.1)) (by omega) (by omega),w64_id (by omega) (by omega)]
 rfl
theorem small2_three (a b c : Int × Int) : small2 [a,b,c] = decide (Sm a ∧ Sm b ∧ Sm c) := by
 rw [(small2_law _ (by simp)).2,Bool.eq_iff_iff,decide_eq_true_iff,decide_eq_true_iff]
 simp only [List.mem_cons,List.not_mem_nil,or_false,forall_eq_or_imp,forall_eq]
theorem small3_three (a b c : Int × (Int × Int)) : small3 [a,b,c] = decide (Sm3 a ∧ Sm3 b ∧ Sm3 c) := by
 rw [(small3_law _ (by simp)).2,Bool.eq_iff_iff,decide_eq_true_iff,decide_eq_true_iff]
 simp only [List.mem_cons,List.not_mem_nil,or_false,forall_eq_or_imp,forall_eq]
theorem sarea_law (a b c : Int × Int) : sarea_pre (a,(b,c)) ∧ sarea (a,(b,c)) = if Sm a ∧ Sm b ∧ Sm c then (Det a b c,0) else (0,5) := by
 refine ⟨⟨(small2_law _ (by simp)).1,fun _ => ⟨sub2_tm _,sub2_tm _,(is2_law _ (by simp)).1⟩⟩,?_⟩
 show parea (a,(b,c)) = _
 unfold parea letV
 rw [small2_three]
 by_cases h : Sm a ∧ Sm b ∧ Sm c
 ·rw [if_pos h,decide_eq_true h,sub2_law h.2.1 h.1,sub2_law h.2.2 h.1]
  exact cross2_law h.1 h.2.1 h.2.2
 ·rw [if_neg h,decide_eq_false h]
  rfl
def sg (n:Int) : Int := if n < 0 then -1 else if n > 0 then 1 else 0
theorem compare_law (a b:Int) : compare (a,b) = sg (a - b) := by
 unfold compare isnan letV sg
 have h : ∀ z : Int,(z != z) = false := fun z => by simp
 simp only [h,Bool.false_eq_true,if_false]
 split <;> (try split) <;> (try split) <;> (try split) <;> (try omega)
theorem sside_law (a b c : Int × Int) : sside (a,(b,c)) = if Sm a ∧ Sm b ∧ Sm c then (sg (Det a b c),0) else (0,5) := by
 unfold sside letV
 rw [(sarea_law a b c).2]
 split
 ·simp [compare_law]
 ·simp [compare_law,sg]
theorem mright_law (a b c : Int × Int) : mright (a,(b,c)) = decide ((Sm a ∧ Sm b ∧ Sm c) ∧ Det a b c ≠ 0) := by
 unfold mright
 rw [(sarea_law a b c).2]
 dsimp only [letV]
 by_cases h : Sm a ∧ Sm b ∧ Sm c
 ·rw [if_pos h,if_pos (by rfl),Bool.eq_iff_iff,decide_eq_true_iff]
  simp only [bne_iff_ne,ne_eq]
  exact ⟨fun h2 => ⟨h,h2⟩,fun h2 => h2.2⟩
 ·rw [if_neg h,decide_eq_false (fun h2 => h h2.1)]
  rfl
theorem det_turn (a b c : Int × Int) : Det b c a = Det a b c := by unfold Det; grind
theorem sg_cases (n:Int) : (n < 0 ∧ sg n = -1) ∨ (n = 0 ∧ sg n = 0) ∨ (0 < n ∧ sg n = 1) := by
 unfold sg
 rcases Int.lt_trichotomy n 0 with h | h | h
 ·exact .inl ⟨h,by rw [if_pos h]⟩
 ·exact .inr (.inl ⟨h,by rw [if_neg (by omega),if_neg (by omega)]⟩)
 ·exact .inr (.inr ⟨h,by rw [if_neg (by omega),if_pos h]⟩)
abbrev Right (a b c : Int × Int) : Prop := (Sm a ∧ Sm b ∧ Sm c) ∧ Det a b c ≠ 0
def Sd (a b c p : Int × Int) : Int := sg (Det a b c) * sg (Det a b p)
theorem sd_in (a b c p : Int × Int) : -1 ≤ Sd a b c p ∧ Sd a b c p ≤ 1 := by
 unfold Sd
 rcases sg_cases (Det a b c) with ⟨_,e⟩ | ⟨_,e⟩ | ⟨_,e⟩ <;> rcases sg_cases (Det a b p) with ⟨_,f⟩ | ⟨_,f⟩ | ⟨_,f⟩ <;> rw [e,f] <;> omega
end Go.Proofs.YtkbmjhabfjgoiaaGreat

namespace Go.Proofs.YtkbmjhabfjgoiaaGreat
open Go Go.Ev Go.Proofs
abbrev Is30 (p : Int × (Int × Int)) : Prop := (-1048576 ≤ p.1 ∧ p.1 ≤ 1048576) ∧ (-1048576 ≤ p.2.1 ∧ p.2.1 ≤ 1048576) ∧ (-1048576 ≤ p.2.2 ∧ p.2.2 ≤ 1048576)
theorem is3_law (x : List (Int × (Int × Int))) (hl : x.length < 4611686018427387904) : is3_pre x ∧ is3 x = decide (∀ p ∈ x,Is30 p) := by
 have hn : ∀ a b c : Int,near [a,b,c] = decide (Is30 (a,(b,c))) := fun a b c => by
  rw [(near_law [a,b,c] (by simp)).2,Bool.eq_iff_iff]; simp
 rw [← notAny (bad := fun p => !decide (Is30 p)) (fun _ => rfl)]
 refine all_loop x hl _ _ _ (fun i hi => ?_) (fun i v hv => ?_) ?_
 ·unfold is3_l0_pre
  intro h
  simp only [Int.toNat_natCast]
  exact ⟨by omega,by omega,by omega,(near_law _ (by simp)).1⟩
 ·have hlt := lt_of_get hv
  unfold is3_l0_step
  rw [if_pos (by omega),Int.toNat_natCast,getD_of hv]
  unfold letV
  rw [hn]
 ·unfold is3_l0_step
  rw [if_neg (by omega)]
def Sub3 (a b : Int × (Int × Int)) : Int × (Int × Int) := (a.1 - b.1,(a.2.1 - b.2.1,a.2.2 - b.2.2))
def Crs (u v : Int × (Int × Int)) : Int × (Int × Int) := (u.2.1 * v.2.2 - u.2.2 * v.2.1,(u.2.2 * v.1 - u.1 * v.2.2,u.1 * v.2.1 - u.2.1 * v.1))
def Nrm (a b c : Int × (Int × Int)) : Int × (Int × Int) := Crs (Sub3 b a) (Sub3 c a)
theorem sub3_tm (x : (Int × (Int × Int)) × (Int × (Int × Int))) : sub3_pre x := (is3_law _ (by simp)).1
theorem sub3_law {a b : Int × (Int × Int)} (ha : Sm3 a) (hb : Sm3 b) : sub3 (a,b) = Sub3 a b := by
 unfold sub3
 rw [(is3_law [a,b] (by simp)).2,decide_eq_true (by simp only [List.mem_cons,List.not_mem_nil,or_false,forall_eq_or_imp,forall_eq]; exact ⟨⟨by omega,by omega,by omega⟩,by omega,by omega,by omega⟩)]
 simp only [letV,vparts,vpoint,cond_true,cond_false,Bool.not_true,Bool.false_eq_true,if_false]
 rw [w64_id (by omega) (by omega),w64_id (by omega) (by omega),w64_id (by omega) (by omega)]
 rfl
theorem crs_in {u v : Int × (Int × Int)} {B : Int} (hB : 0 ≤ B ∧ B ≤ 32768) (hu : (-B ≤ u.1 ∧ u.1 ≤ B) ∧ (-B ≤ u.2.1 ∧ u.2.1 ≤ B) ∧ (-B ≤ u.2.2 ∧ u.2.2 ≤ B)) (hv : (-B ≤ v.1 ∧ v.1 ≤ B) ∧ (-B ≤ v.2.1 ∧ v.2.1 ≤ B) ∧ (-B ≤ v.2.2 ∧ v.2.2 ≤ B)) :
  (-(B * B) ≤ u.2.1 * v.2.2 ∧ u.2.1 * v.2.2 ≤ B * B) ∧ (-(B * B) ≤ u.2.2 * v.2.1 ∧ u.2.2 * v.2.1 ≤ B * B) ∧ (-(B * B) ≤ u.2.2 * v.1 ∧ u.2.2 * v.1 ≤ B * B) ∧ (-(B * B) ≤ u.1 * v.2.2 ∧ u.1 * v.2.2 ≤ B * B) ∧ (-(B * B) ≤ u.1 * v.2.1 ∧ u.1 * v.2.1 ≤ B * B) ∧ (-(B * B) ≤ u.2.1 * v.1 ∧ u.2.1 * v.1 ≤ B * B) :=
 ⟨mulb hu.2.1.1 hu.2.1.2 hv.2.2.1 hv.2.2.2,mulb hu.2.2.1 hu.2.2.2 hv.2.1.1 hv.2.1.2,mulb hu.2.2.1 hu.2.2.2 hv.1.1 hv.1.2,mulb hu.1.1 hu.1.2 hv.2.2.1 hv.2.2.2,mulb hu.1.1 hu.1.2 hv.2.1.1 hv.2.1.2,mulb hu.2.1.1 hu.2.1.2 hv.1.1 hv.1.2⟩
theorem cross3_tm (x : (Int × (Int × Int)) × (Int × (Int × Int))) : cross3_pre x := (is3_law _ (by simp)).1
abbrev In3 (B:Int) (u : Int × (Int × Int)) : Prop := (-B ≤ u.1 ∧ u.1 ≤ B) ∧ (-B ≤ u.2.1 ∧ u.2.1 ≤ B) ∧ (-B ≤ u.2.2 ∧ u.2.2 ≤ B)
theorem cross3_law {u v : Int × (Int × Int)} (hu : In3 32768 u) (hv : In3 32768 v) : cross3 (u,v) = (Crs u v,0) := by
 unfold cross3
 rw [(is3_law [u,v] (by simp)).2,decide_eq_true (by simp only [List.mem_cons,List.not_mem_nil,or_false,forall_eq_or_imp,forall_eq]; exact ⟨⟨by omega,by omega,by omega⟩,by omega,by omega,by omega⟩)]
 obtain ⟨h1,h2,h3,h4,h5,h6⟩ := crs_in (B := 32768) (by omega) hu hv
 simp only [letV,vparts,vpoint,cond_true,cond_false,Bool.not_true,Bool.false_eq_true,if_false]
 rw [w64_id (n := u.2.1 * v.2.2) (by omega) (by omega),w64_id (n := u.2.2 * v.2.1) (by omega) (by omega),w64_id (n := u.2.2 * v.1) (by omega) (by omega),w64_id (n := u.1 * v.2.2) (by omega) (by omega),w64_id (n := u.1 * v.2.1) (by omega) (by omega),w64_id (n := u.2.1 * v.1) (by omega) (by omega)]
 rw [w64_id (by omega) (by omega),w64_id (by omega) (by omega),w64_id (by omega) (by omega)]
 rfl
theorem sub3_in {a b : Int × (Int × Int)} (ha : Sm3 a) (hb : Sm3 b) : In3 32768 (Sub3 a b) := by
 unfold Sub3; dsimp only [In3]; omega
theorem nrm_in {a b c : Int × (Int × Int)} (ha : Sm3 a) (hb : Sm3 b) (hc : Sm3 c) : In3 2147483648 (Nrm a b c) := by
 obtain ⟨h1,h2,h3,h4,h5,h6⟩ := crs_in (B := 32768) (by omega) (sub3_in hb ha) (sub3_in hc ha)
 unfold Nrm Crs; dsimp only [In3]; omega
theorem snormal_tm (x : (Int × (Int × Int)) × ((Int × (Int × Int)) × (Int × (Int × Int)))) : snormal_pre x :=
 ⟨(small3_law _ (by simp)).1,fun _ => ⟨sub3_tm _,sub3_tm _,cross3_tm _⟩⟩
theorem snormal_law (a b c : Int × (Int × Int)) : snormal (a,(b,c)) = if Sm3 a ∧ Sm3 b ∧ Sm3 c then (Nrm a b c,0) else ((0,(0,0)),5) := by
 unfold snormal pnormal
 dsimp only [letV]
 rw [small3_three]
 by_cases h : Sm3 a ∧ Sm3 b ∧ Sm3 c
 ·rw [decide_eq_true h,if_neg (by decide),if_pos h,sub3_law h.2.1 h.1,sub3_law h.2.2 h.1,cross3_law (sub3_in h.2.1 h.1) (sub3_in h.2.2 h.1)]
  rfl
 ·rw [decide_eq_false h,if_pos (by decide),if_neg h]
def Lw (x:Int) : Int := if x > 0 then -x else x
theorem vlow_law {x : Int} (h : x ≤ 4611686018427387904) : vlow x = Lw x := by
 unfold vlow Lw
 split
 ·rw [w64_id (by omega) (by omega)]; omega
 ·rfl
def Ax (n : Int × (Int × Int)) : Int := if Lw n.2.1 < Lw n.1 then (if Lw n.2.2 < Lw n.2.1 then 2 else 1) else (if Lw n.2.2 < Lw n.1 then 2 else 0)
def Cp (n : Int × (Int × Int)) (ax:Int) : Int := if ax = 0 then n.1 else if ax = 1 then n.2.1 else n.2.2
theorem vaxis_law {n : Int × (Int × Int)} (h : In3 4611686018427387904 n) : vaxis n = Ax n := by
 unfold vaxis
 dsimp only [letV,vparts]
 rw [vlow_law h.1.2,vlow_law h.2.1.2,vlow_law h.2.2.2,if_neg (Int.lt_irrefl _)]
 rfl
theorem ax_in (n : Int × (Int × Int)) : 0 ≤ Ax n ∧ Ax n < 3 := by unfold Ax; split <;> split <;> omega
theorem cp_list (n : Int × (Int × Int)) {ax : Int} (h : 0 ≤ ax ∧ ax < 3) : List.getD [n.1,n.2.1,n.2.2] (ax.toNat * 1) 0 = Cp n ax := by
 have : ax = 0 ∨ ax = 1 ∨ ax = 2 := by omega
 rcases this with rfl | rfl | rfl <;> rfl
theorem sfacing_tm (x : (Int × (Int × Int)) × ((Int × (Int × Int)) × (Int × (Int × Int)))) : sfacing_pre x := by
 obtain ⟨a,b,c⟩ := x
 refine ⟨snormal_tm _,?_⟩
 dsimp only [letP]
 rw [snormal_law]
 intro h1 h2
 by_cases h : Sm3 a ∧ Sm3 b ∧ Sm3 c
 ·rw [if_pos h] at h1 h2 ⊢
  have hn := nrm_in h.1 h.2.1 h.2.2
  dsimp only
  rw [vaxis_law (n := Nrm a b c) ⟨by omega,by omega,by omega⟩]
  exact ax_in _
 ·rw [if_neg h] at h1
  exact absurd (by decide) h1
theorem sfacing_law (a b c : Int × (Int × Int)) : sfacing (a,(b,c)) = if Sm3 a ∧ Sm3 b ∧ Sm3 c then (if Nrm a b c = (0,(0,0)) then (0,(0,3)) else (Ax (Nrm a b c),(sg (Cp (Nrm a b c) (Ax (Nrm a b c))),0))) else (0,(0,5)) := by
 unfold sfacing
 dsimp only [letV]
 rw [snormal_law]
 by_cases h : Sm3 a ∧ Sm3 b ∧ Sm3 c
 ·rw [if_pos h,if_pos h,if_neg (by simp)]
  have hn := nrm_in h.1 h.2.1 h.2.2
  have he : ((((Nrm a b c).1 == (0:Int)) && (((Nrm a b c).2.1 == (0:Int)) && (((Nrm a b c).2.2 == (0:Int)) && true))) = true) ↔ Nrm a b c = (0,(0,0)) := by
   generalize Nrm a b c = n
   obtain ⟨x,y,z⟩ := n
   simp
  by_cases hz : Nrm a b c = (0,(0,0))
  ·rw [if_pos (he.2 hz),if_pos hz]
  ·rw [if_neg (fun q => hz (he.1 q)),if_neg hz]
   dsimp only
   rw [vaxis_law (n := Nrm a b c) ⟨by omega,by omega,by omega⟩,cp_list _ (ax_in _),compare_law,show ∀ q : Int,q - 0 = q by omega]
 ·rw [if_neg h,if_neg h]
  rfl
def Dr (p : Int × (Int × Int)) (ax:Int) : Int × Int := if ax = 0 then (p.2.1,p.2.2) else if ax = 1 then (p.2.2,p.1) else (p.1,p.2.1)
theorem vdrop_law (p : Int × (Int × Int)) (ax:Int) : vdrop_pre (p,ax) ∧ vdrop (p,ax) = if 0 ≤ ax ∧ ax < 3 then (Dr p ax,0) else ((0,0),1) := by
 unfold vdrop_pre vdrop
 dsimp only [letV,letP,vparts]
 by_cases h : 0 ≤ ax ∧ ax < 3
 ·have : ax = 0 ∨ ax = 1 ∨ ax = 2 := by omega
  rcases this with rfl | rfl | rfl <;> exact ⟨fun _ _ => ⟨by decide,by decide,by decide,by decide⟩,rfl⟩
 ·rw [if_neg h]
  by_cases h1 : ax < 0
  ·exact ⟨fun h => absurd h1 h,by rw [if_pos h1]⟩
  ·exact ⟨fun _ h => absurd (show ax ≥ 3 by omega) h,by rw [if_neg h1,if_pos (by omega)]⟩
end Go.Proofs.YtkbmjhabfjgoiaaGreat
