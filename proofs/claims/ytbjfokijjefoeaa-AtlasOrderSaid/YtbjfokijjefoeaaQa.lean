/- Plain laws: what the models of small points and of areas come to. -/
import Derived.Test.YtbjfokijjefoeaaFa
import Derived.Test.YtbjfokijjefoeaaQ0
namespace Go.Proofs.Ytbjfokijjefoeaa
open Go Go.Ev Go.Proofs
theorem near_law (x : List Int) (hl : x.length < 4611686018427387904) : near_pre x ∧ near x = !x.any (fun v => decide (v < -1048576) || decide (v > 1048576)) := by
 refine all_loop x hl _ _ _ (fun i hi => ?_) (fun i v hv => ?_) ?_
 ·unfold near_l0_pre
  intro h
  simp only [Int.toNat_natCast]; omega
 ·have hlt := lt_of_get hv
  unfold near_l0_step
  rw [if_pos (by omega),Int.toNat_natCast,getD_of hv]
  by_cases h1 : v < -1048576
  ·simp [h1]
  ·by_cases h2 : v > 1048576
   ·simp [h1,h2]
   ·simp [h1,h2]
 ·unfold near_l0_step
  rw [if_neg (by omega)]
theorem within_law (m:Int) (hm : 0 ≤ m) (hm2 : m < 4611686018427387904) (x : List Int) (hl : x.length < 4611686018427387904) : within_pre (m,x) ∧ within (m,x) = !x.any (fun v => decide (v < -m) || decide (v > m)) := by
 refine all_loop x hl _ _ _ (fun i hi => ?_) (fun i v hv => ?_) ?_
 ·unfold within_l0_pre
  intro h
  simp only [Int.toNat_natCast]; dsimp only at h ⊢; omega
 ·have hlt := lt_of_get hv
  unfold within_l0_step
  rw [if_pos (by dsimp only; omega),Int.toNat_natCast]
  dsimp only
  rw [getD_of hv,w64_id (n := 0 - m) (by omega) (by omega),show 0 - m = -m by omega]
  by_cases h1 : v < -m
  ·simp [h1]
  ·by_cases h2 : v > m
   ·simp [h1,h2]
   ·simp [h1,h2]
 ·unfold within_l0_step
  rw [if_neg (by dsimp only; omega)]
abbrev Is20 (p : Int × Int) : Prop := (-1048576 ≤ p.1 ∧ p.1 ≤ 1048576) ∧ (-1048576 ≤ p.2 ∧ p.2 ≤ 1048576)
abbrev Sm (p : Int × Int) : Prop := (-4096 ≤ p.1 ∧ p.1 ≤ 4096) ∧ (-4096 ≤ p.2 ∧ p.2 ≤ 4096)
theorem notAny {α : Type} {l : List α} {bad : α → Bool} {P : α → Prop} [DecidablePred P] (h : ∀ x,bad x = !decide (P x)) : (!l.any bad) = decide (∀ x ∈ l,P x) := by
 rw [Bool.eq_iff_iff]
 simp [h]
theorem is2_law (x : List (Int × Int)) (hl : x.length < 4611686018427387904) : is2_pre x ∧ is2 x = decide (∀ p ∈ x,Is20 p) := by
 have hn : ∀ a b : Int,near [a,b] = decide (Is20 (a,b)) := fun a b => by
  rw [(near_law [a,b] (by simp)).2,Bool.eq_iff_iff]; simp
 rw [← notAny (bad := fun p => !decide (Is20 p)) (fun _ => rfl)]
 refine all_loop x hl _ _ _ (fun i hi => ?_) (fun i v hv => ?_) ?_
 ·unfold is2_l0_pre
  intro h
  simp only [Int.toNat_natCast]
  exact ⟨by omega,by omega,by omega,(near_law _ (by simp)).1⟩
 ·have hlt := lt_of_get hv
  unfold is2_l0_step
  rw [if_pos (by omega),Int.toNat_natCast,getD_of hv]
  unfold letV
  rw [hn]
 ·unfold is2_l0_step
  rw [if_neg (by omega)]
theorem small2_law (x : List (Int × Int)) (hl : x.length < 4611686018427387904) : small2_pre x ∧ small2 x = decide (∀ p ∈ x,Sm p) := by
 have hn : ∀ a b : Int,within (4096,[a,b]) = decide (Sm (a,b)) := fun a b => by
  rw [(within_law 4096 (by omega) (by omega) [a,b] (by simp)).2,Bool.eq_iff_iff]; simp
 rw [← notAny (bad := fun p => !decide (Sm p)) (fun _ => rfl)]
 refine all_loop x hl _ _ _ (fun i hi => ?_) (fun i v hv => ?_) ?_
 ·unfold small2_l0_pre
  intro h
  simp only [Int.toNat_natCast]
  exact ⟨by omega,by omega,by omega,(within_law 4096 (by omega) (by omega) _ (by simp)).1⟩
 ·have hlt := lt_of_get hv
  unfold small2_l0_step
  rw [if_pos (by omega),Int.toNat_natCast,getD_of hv]
  unfold letV
  rw [hn]
 ·unfold small2_l0_step
  rw [if_neg (by omega)]
theorem sub2_law {a b : Int × Int} (ha : Sm a) (hb : Sm b) : sub2 (a,b) = (a.1 - b.1,a.2 - b.2) := by
 unfold sub2 letV
 rw [(is2_law [a,b] (by simp)).2,decide_eq_true (by simp only [List.mem_cons,List.not_mem_nil,or_false,forall_eq_or_imp,forall_eq]; exact ⟨⟨by omega,by omega⟩,by omega,by omega⟩)]
 simp only [Bool.not_true,Bool.false_eq_true,if_false]
 rw [w64_id (by omega) (by omega),w64_id (by omega) (by omega)]
theorem sub2_tm (x : (Int × Int) × (Int × Int)) : sub2_pre x := (is2_law _ (by simp)).1
def Det (a b c : Int × Int) : Int := (b.1 - a.1) * (c.2 - a.2) - (b.2 - a.2) * (c.1 - a.1)
theorem det_in {a b c : Int × Int} (ha : Sm a) (hb : Sm b) (hc : Sm c) : -134217728 ≤ Det a b c ∧ Det a b c ≤ 134217728 := by
 have m1 := mulb (a := b.1 - a.1) (b := c.2 - a.2) (A := 8192) (B := 8192) (by omega) (by omega) (by omega) (by omega)
 have m2 := mulb (a := b.2 - a.2) (b := c.1 - a.1) (A := 8192) (B := 8192) (by omega) (by omega) (by omega) (by omega)
 unfold Det; omega
theorem cross2_law {a b c : Int × Int} (ha : Sm a) (hb : Sm b) (hc : Sm c) : cross2 ((b.1 - a.1,b.2 - a.2),(c.1 - a.1,c.2 - a.2)) = (Det a b c,0) := by
 unfold cross2 letV
 rw [(is2_law _ (by simp)).2,decide_eq_true (by simp only [List.mem_cons,List.not_mem_nil,or_false,forall_eq_or_imp,forall_eq]; exact ⟨⟨by omega,by omega⟩,by omega,by omega⟩)]
 simp only [Bool.not_true,Bool.false_eq_true,if_false]
 have m1 := mulb (a := b.1 - a.1) (b := c.2 - a.2) (A := 8192) (B := 8192) (by omega) (by omega) (by omega) (by omega)
 have m2 := mulb (a := b.2 - a.2) (b := c.1 - a.1) (A := 8192) (B := 8192) (by omega) (by omega) (by omega) (by omega)
 rw [w64_id (n := (b.1 - a.1) * (c.2 - a.2)) (by omega) (by omega),w64_id (n := (b.2 - a.2) * (c.1 - a.1)) (by omega) (by omega),w64_id (by omega) (by omega)]
 rfl
theorem small2_three (a b c : Int × Int) : small2 [a,b,c] = decide (Sm a ∧ Sm b ∧ Sm c) := by
 rw [(small2_law _ (by simp)).2,Bool.eq_iff_iff,decide_eq_true_iff,decide_eq_true_iff]
 simp only [List.mem_cons,List.not_mem_nil,or_false,forall_eq_or_imp,forall_eq]
theorem small2_one (a : Int × Int) : small2 [a] = decide (Sm a) := by
 rw [(small2_law _ (by simp)).2,Bool.eq_iff_iff,decide_eq_true_iff,decide_eq_true_iff]
 simp only [List.mem_cons,List.not_mem_nil,or_false,forall_eq]
theorem sarea_law (a b c : Int × Int) : sarea_pre (a,(b,c)) ∧ sarea (a,(b,c)) = if Sm a ∧ Sm b ∧ Sm c then (Det a b c,0) else (0,5) := by
 refine ⟨⟨(small2_law _ (by simp)).1,fun _ => ⟨sub2_tm _,sub2_tm _,(is2_law _ (by simp)).1⟩⟩,?_⟩
 show parea (a,(b,c)) = _
 unfold parea letV
 rw [small2_three]
 by_cases h : Sm a ∧ Sm b ∧ Sm c
 ·rw [if_pos h,decide_eq_true h,sub2_law h.2.1 h.1,sub2_law h.2.2 h.1]
  exact cross2_law h.1 h.2.1 h.2.2
 ·rw [if_neg h,decide_eq_false h]
  rfl
theorem mright_law (a b c : Int × Int) : mright (a,(b,c)) = decide ((Sm a ∧ Sm b ∧ Sm c) ∧ Det a b c ≠ 0) := by
 unfold mright
 rw [(sarea_law a b c).2]
 dsimp only [letV]
 by_cases h : Sm a ∧ Sm b ∧ Sm c
 ·rw [if_pos h,if_pos (by rfl),Bool.eq_iff_iff,decide_eq_true_iff]
  simp only [bne_iff_ne,ne_eq]
  exact ⟨fun h2 => ⟨h,h2⟩,fun h2 => h2.2⟩
 ·rw [if_neg h,decide_eq_false (fun h2 => h h2.1)]
  rfl
abbrev Right (a b c : Int × Int) : Prop := (Sm a ∧ Sm b ∧ Sm c) ∧ Det a b c ≠ 0
end Go.Proofs.Ytbjfokijjefoeaa
