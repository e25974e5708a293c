/- Sorting, plain: the partition. -/
import Derived.Test.YtaipcbdilkcdbaaTh
noncomputable section
set_option linter.unusedSectionVars false
set_option linter.unusedVariables false
set_option linter.unusedSimpArgs false
namespace Go.Proofs.Ytaipcbdilkcdbaa
open Go Go.Ev Go.Proofs
section
variable {x : List Int × Int × Int × Int × RT} {a : Nat}
theorem pt_up0 {b : Nat} (hx : x.2.1 = (a:Int)) (hx2 : x.2.2.1 = (b:Int)) {d : List Int} (hf : Fine x.2.2.2.2 d) (ha : a < d.length) (hb : b ≤ d.length) (h0 : 0 < b) {i : Nat} (hi : i ≤ b - 1 + 2) :
  TR (partM_l0_3_step x) (partM_l0_3_pre x) (d,(i:Int)) fun r => r = (d,((Sort.scanUp (fun y => ltM x.2.2.2.2 y (d.getD a 0)) d.toArray (b - 1) i:Nat):Int)) ∧ i ≤ Sort.scanUp (fun y => ltM x.2.2.2.2 y (d.getD a 0)) d.toArray (b - 1) i ∧ Sort.scanUp (fun y => ltM x.2.2.2.2 y (d.getD a 0)) d.toArray (b - 1) i ≤ b - 1 + 2 := by
 have hl := hf.len
 have e2 : w64 ((b:Int) - 1) = ((b - 1:Nat):Int) := w64N (by omega) (by omega)
 refine scan_up (fun i => (d,(i:Int))) (fun i => (d,(i:Int))) _ d 0 (b - 1) (fun i _ hi => ?_) (fun i _ hi h => ?_) (fun i _ hi h => ?_) _ i (by omega) hi (Nat.le_refl _)
 ·simp only [partM_l0_3_pre,hx,hx2,e2,Int.toNat_natCast]
  intro h
  refine ⟨?_,?_,?_,?_,?_,?_,hf.by_ (by omega) ha⟩ <;> omega
 ·simp only [partM_l0_3_step,letV,hx,hx2,e2,Int.toNat_natCast]
  rw [if_pos (by omega),if_pos ((by_lt _ _ _).2 h),w64N (n := (i:Int) + 1) (m := i + 1) (by omega) (by omega)]
 ·simp only [partM_l0_3_step,letV,hx,hx2,e2,Int.toNat_natCast]
  by_cases hc : i ≤ b - 1
  ·rw [if_pos (by omega),if_neg (fun h' => h ⟨hc,(by_lt _ _ _).1 h'⟩)]
  ·rw [if_neg (by omega)]
theorem pt_down0 (hx : x.2.1 = (a:Int)) {d : List Int} (hf : Fine x.2.2.2.2 d) {i : Nat} (h0 : 1 ≤ i) (ha : a < d.length) {j : Nat} (hj : j < d.length) (hi : i ≤ j + 2) :
  TR (partM_l2_3_step x) (partM_l2_3_pre x) (d,((i:Int),(j:Int))) fun r => r = (d,((i:Int),((Sort.scanDown (fun y => !ltM x.2.2.2.2 y (d.getD a 0)) d.toArray i j:Nat):Int))) ∧ Sort.scanDown (fun y => !ltM x.2.2.2.2 y (d.getD a 0)) d.toArray i j ≤ j ∧ i ≤ Sort.scanDown (fun y => !ltM x.2.2.2.2 y (d.getD a 0)) d.toArray i j + 2 := by
 have hl := hf.len
 refine scan_down (fun j => (d,((i:Int),(j:Int)))) (fun j => (d,((i:Int),(j:Int)))) _ d j i h0 (fun j hj => ?_) (fun j hj hi h => ?_) (fun j hj h => ?_) j (Nat.le_refl _) hi
 ·simp only [partM_l2_3_pre,hx,Int.toNat_natCast]
  intro h
  refine ⟨?_,?_,?_,?_,?_,?_,hf.by_ (by omega) ha⟩ <;> omega
 ·simp only [partM_l2_3_step,letV,hx,Int.toNat_natCast]
  rw [if_pos (by omega),if_pos ((nlt _ _ _).2 h),w64N (n := ((j + 1:Nat):Int) - 1) (m := j) (by omega) (by omega)]
 ·simp only [partM_l2_3_step,letV,hx,Int.toNat_natCast]
  by_cases hc : i ≤ j
  ·rw [if_pos (by omega),if_neg (fun h' => h ⟨hc,(nlt _ _ _).1 h'⟩)]
  ·rw [if_neg (by omega)]
theorem pt_up (hx : x.2.1 = (a:Int)) {d : List Int} (hf : Fine x.2.2.2.2 d) {j : Nat} (ha : a < d.length) (hj : j < d.length) {i : Nat} (hi : i ≤ j + 2) :
  TR (partM_l6_3_step x) (partM_l6_3_pre x) (d,((i:Int),(j:Int))) fun r => r = (d,(((Sort.scanUp (fun y => ltM x.2.2.2.2 y (d.getD a 0)) d.toArray j i:Nat):Int),(j:Int))) ∧ i ≤ Sort.scanUp (fun y => ltM x.2.2.2.2 y (d.getD a 0)) d.toArray j i ∧ Sort.scanUp (fun y => ltM x.2.2.2.2 y (d.getD a 0)) d.toArray j i ≤ j + 2 := by
 have hl := hf.len
 refine scan_up (fun i => (d,((i:Int),(j:Int)))) (fun i => (d,((i:Int),(j:Int)))) _ d 0 j (fun i _ hi => ?_) (fun i _ hi h => ?_) (fun i _ hi h => ?_) _ i (by omega) hi (Nat.le_refl _)
 ·simp only [partM_l6_3_pre,hx,Int.toNat_natCast]
  intro h
  refine ⟨?_,?_,?_,?_,?_,?_,hf.by_ (by omega) ha⟩ <;> omega
 ·simp only [partM_l6_3_step,letV,hx,Int.toNat_natCast]
  rw [if_pos (by omega),if_pos ((by_lt _ _ _).2 h),w64N (n := (i:Int) + 1) (m := i + 1) (by omega) (by omega)]
 ·simp only [partM_l6_3_step,letV,hx,Int.toNat_natCast]
  by_cases hc : i ≤ j
  ·rw [if_pos (by omega),if_neg (fun h' => h ⟨hc,(by_lt _ _ _).1 h'⟩)]
  ·rw [if_neg (by omega)]
theorem pt_down (hx : x.2.1 = (a:Int)) {d : List Int} (hf : Fine x.2.2.2.2 d) {i : Nat} (h0 : 1 ≤ i) (ha : a < d.length) {j : Nat} (hj : j < d.length) (hi : i ≤ j + 2) :
  TR (partM_l8_3_step x) (partM_l8_3_pre x) (d,((i:Int),(j:Int))) fun r => r = (d,((i:Int),((Sort.scanDown (fun y => !ltM x.2.2.2.2 y (d.getD a 0)) d.toArray i j:Nat):Int))) ∧ Sort.scanDown (fun y => !ltM x.2.2.2.2 y (d.getD a 0)) d.toArray i j ≤ j ∧ i ≤ Sort.scanDown (fun y => !ltM x.2.2.2.2 y (d.getD a 0)) d.toArray i j + 2 := by
 have hl := hf.len
 refine scan_down (fun j => (d,((i:Int),(j:Int)))) (fun j => (d,((i:Int),(j:Int)))) _ d j i h0 (fun j hj => ?_) (fun j hj hi h => ?_) (fun j hj h => ?_) j (Nat.le_refl _) hi
 ·simp only [partM_l8_3_pre,hx,Int.toNat_natCast]
  intro h
  refine ⟨?_,?_,?_,?_,?_,?_,hf.by_ (by omega) ha⟩ <;> omega
 ·simp only [partM_l8_3_step,letV,hx,Int.toNat_natCast]
  rw [if_pos (by omega),if_pos ((nlt _ _ _).2 h),w64N (n := ((j + 1:Nat):Int) - 1) (m := j) (by omega) (by omega)]
 ·simp only [partM_l8_3_step,letV,hx,Int.toNat_natCast]
  by_cases hc : i ≤ j
  ·rw [if_pos (by omega),if_neg (fun h' => h ⟨hc,(nlt _ _ _).1 h'⟩)]
  ·rw [if_neg (by omega)]
theorem pt_loop (hx : x.2.1 = (a:Int)) : ∀ (n:Nat) (d : List Int) (i j:Nat),Fine x.2.2.2.2 d → 1 ≤ i → a < d.length → j < d.length → i ≤ j + 2 → j + 1 - i ≤ n →
  TR (partM_l4_3_step x) (partM_l4_3_pre x) (d,((i:Int),(j:Int))) fun r => r.1.toArray = (Sort.partLoop (ltM x.2.2.2.2) a i j d.toArray).2 ∧ r.2 = ((Sort.partLoop (ltM x.2.2.2.2) a i j d.toArray).1:Int) ∧ r.1.length = d.length ∧ Fine x.2.2.2.2 r.1 ∧ (Sort.partLoop (ltM x.2.2.2.2) a i j d.toArray).1 < d.length := by
 intro n
 induction n using Nat.strongRecOn with
 | ind n ih =>
 intro d i j hf h0 ha hj hij hn
 have hl := hf.len
 obtain ⟨u1,u2,u3,u4⟩ := pt_up hx hf ha hj hij
 obtain ⟨i2,hi2⟩ : ∃ i2,i2 = Sort.scanUp (fun y => ltM x.2.2.2.2 y (d.getD a 0)) d.toArray j i := ⟨_,rfl⟩
 rw [← hi2] at u2 u3 u4
 obtain ⟨v1,v2,v3,v4⟩ := pt_down hx hf (i := i2) (by omega) ha hj (by omega)
 obtain ⟨j2,hj2⟩ : ∃ j2,j2 = Sort.scanDown (fun y => !ltM x.2.2.2.2 y (d.getD a 0)) d.toArray i2 j := ⟨_,rfl⟩
 rw [← hj2] at v2 v3 v4
 have hE : Sort.partLoop (ltM x.2.2.2.2) a i j d.toArray = if i2 > j2 then (j2,d.toArray) else Sort.partLoop (ltM x.2.2.2.2) a (i2 + 1) (j2 - 1) (Sort.swp d.toArray i2 j2) := by
  rw [Sort.partLoop]
  simp only [getBang,← hi2,← hj2]
  by_cases hc : i2 > j2
  ·rw [if_pos hc,if_pos hc]
  ·rw [if_neg hc,if_neg hc,dif_pos (by omega)]
 by_cases hc : i2 > j2
 ·refine TR.stop (r := (d,(j2:Int))) ?_ ?_ ?_
  ·simp only [partM_l4_3_pre,letP,u2,v2]
   exact ⟨u1,v1,fun h => absurd (show (i2:Int) > (j2:Int) by omega) h⟩
  ·simp only [partM_l4_3_step,letV,u2,v2]
   rw [if_pos (by omega)]
  ·rw [hE,if_pos hc]; exact ⟨rfl,rfl,rfl,hf,by show j2 < d.length; omega⟩
 ·refine TR.go (s' := (sw d i2 j2,(((i2 + 1:Nat):Int),((j2 - 1:Nat):Int)))) ?_ ?_ ((ih (j2 - 1 + 1 - (i2 + 1)) (by omega) (sw d i2 j2) (i2 + 1) (j2 - 1) (hf.sw (i := i2) (j := j2) (by omega) (by omega)) (by omega) (by rw [sw_len]; omega) (by rw [sw_len]; omega) (by omega) (Nat.le_refl _)).mono fun r hr => ?_)
  ·simp only [partM_l4_3_pre,letP,u2,v2,List.length_set,Int.toNat_natCast]
   refine ⟨u1,v1,fun _ => ?_⟩
   refine ⟨?_,?_,?_,?_,?_,?_,?_,?_,?_,?_,?_,?_⟩ <;> omega
  ·simp only [partM_l4_3_step,letV,u2,v2,Int.toNat_natCast]
   rw [if_neg (by omega),w64N (n := (i2:Int) + 1) (m := i2 + 1) (by omega) (by omega),w64N (n := (j2:Int) - 1) (m := j2 - 1) (by omega) (by omega)]
   rfl
  ·rw [hE,if_neg hc,← sw_arr]
   rw [sw_len] at hr
   exact hr
end
theorem pt_law {r : RT} {d : List Int} (hf : Fine r d) {a b p : Nat} (hap : a ≤ p) (hpb : p < b) (hb : b ≤ d.length) :
  partM_pre (d,((a:Int),((b:Int),((p:Int),r)))) ∧ (partM (d,((a:Int),((b:Int),((p:Int),r))))).1.1 = ((Sort.partition (ltM r) d.toArray a b p).1:Int) ∧
   (partM (d,((a:Int),((b:Int),((p:Int),r))))).2.1.toArray = (Sort.partition (ltM r) d.toArray a b p).2.2 ∧ (partM (d,((a:Int),((b:Int),((p:Int),r))))).2.1.length = d.length ∧ Fine r (partM (d,((a:Int),((b:Int),((p:Int),r))))).2.1 := by
 have hl := hf.len
 have e1 : w64 ((a:Int) + 1) = ((a + 1:Nat):Int) := w64N (by omega) (by omega)
 have e2 : w64 ((b:Int) - 1) = ((b - 1:Nat):Int) := w64N (by omega) (by omega)
 have hs := hf.sw (i := a) (j := p) (by omega) (by omega)
 obtain ⟨D,hD⟩ : ∃ D,D = sw d a p := ⟨_,rfl⟩
 have hDl : D.length = d.length := by rw [hD,sw_len]
 rw [← hD] at hs
 obtain ⟨X,hX⟩ : ∃ X : List Int × Int × Int × Int × RT,X = (d,((a:Int),((b:Int),((p:Int),r)))) := ⟨_,rfl⟩
 have hXr : X.2.2.2.2 = r := by rw [hX]
 have hX1 : X.2.1 = (a:Int) := by rw [hX]
 have hX2 : X.2.2.1 = (b:Int) := by rw [hX]
 have hXp : X.2.2.2.1 = (p:Int) := by rw [hX]
 have hXd : X.1 = d := by rw [hX]
 have hDD : (d.set a (d.getD p 0)).set p (d.getD a 0) = D := by rw [hD]; rfl
 obtain ⟨u1,u2,u3,u4⟩ := pt_up0 (x := X) hX1 hX2 (d := D) (by rw [hXr]; exact hs) (i := a + 1) (by omega) (by omega) (by omega) (by omega)
 obtain ⟨i2,hi2⟩ : ∃ i2,i2 = Sort.scanUp (fun y => ltM r y (D.getD a 0)) D.toArray (b - 1) (a + 1) := ⟨_,rfl⟩
 rw [hXr,← hi2] at u2 u3 u4
 obtain ⟨v1,v2,v3,v4⟩ := pt_down0 (x := X) hX1 (d := D) (by rw [hXr]; exact hs) (i := i2) (by omega) (by omega) (j := b - 1) (by omega) (by omega)
 obtain ⟨j2,hj2⟩ : ∃ j2,j2 = Sort.scanDown (fun y => !ltM r y (D.getD a 0)) D.toArray i2 (b - 1) := ⟨_,rfl⟩
 rw [hXr,← hj2] at v2 v3 v4
 have hE : Sort.partition (ltM r) d.toArray a b p = if i2 > j2 then (j2,true,Sort.swp D.toArray j2 a) else ((Sort.partLoop (ltM r) a (i2 + 1) (j2 - 1) (Sort.swp D.toArray i2 j2)).1,false,Sort.swp (Sort.partLoop (ltM r) a (i2 + 1) (j2 - 1) (Sort.swp D.toArray i2 j2)).2 (Sort.partLoop (ltM r) a (i2 + 1) (j2 - 1) (Sort.swp D.toArray i2 j2)).1 a) := by
  unfold Sort.partition
  simp only [← sw_arr,← hD,getBang,← hi2,← hj2]
 have hM : partM X = (if (i2:Int) > (j2:Int) then (((j2:Int),true),(sw D j2 a,(false,(false,(false,false))))) else
   (((run (partM_l4_3_step X) (sw D i2 j2,(w64 ((i2:Int) + 1),w64 ((j2:Int) - 1)))).2,false),(((run (partM_l4_3_step X) (sw D i2 j2,(w64 ((i2:Int) + 1),w64 ((j2:Int) - 1)))).1.set (Int.toNat (run (partM_l4_3_step X) (sw D i2 j2,(w64 ((i2:Int) + 1),w64 ((j2:Int) - 1)))).2) ((run (partM_l4_3_step X) (sw D i2 j2,(w64 ((i2:Int) + 1),w64 ((j2:Int) - 1)))).1.getD a 0)).set a ((run (partM_l4_3_step X) (sw D i2 j2,(w64 ((i2:Int) + 1),w64 ((j2:Int) - 1)))).1.getD (Int.toNat (run (partM_l4_3_step X) (sw D i2 j2,(w64 ((i2:Int) + 1),w64 ((j2:Int) - 1)))).2) 0),(false,(false,(false,false)))))) := by
  simp only [partM,letV,hXd,hXp,hX1,hX2,Int.toNat_natCast,hDD,e1,e2,u2,v2]
  rfl
 by_cases hc : i2 > j2
 ·have hM' : partM X = (((j2:Int),true),(sw D j2 a,(false,(false,(false,false))))) := by rw [hM,if_pos (by omega)]
  rw [← hX]
  refine ⟨?_,by rw [hM',hE,if_pos hc],by rw [hM',hE,if_pos hc]; exact sw_arr _ _ _,by rw [hM']; show (sw D j2 a).length = _; rw [sw_len,hDl],by rw [hM']; exact hs.sw (by omega) (by omega)⟩
  simp only [partM_pre,letP,hXd,hXp,hX1,hX2,Int.toNat_natCast,List.length_set,hDD,e1,e2,u2,v2]
  repeat' (first | exact u1 | exact v1 | with_reducible apply And.intro | intro _)
  all_goals omega
 ·have q1 : w64 ((i2:Int) + 1) = ((i2 + 1:Nat):Int) := w64N (by omega) (by omega)
  have q2 : w64 ((j2:Int) - 1) = ((j2 - 1:Nat):Int) := w64N (by omega) (by omega)
  obtain ⟨w1,w2,w3,w4,w5,w6⟩ := pt_loop (x := X) hX1 _ (sw D i2 j2) (i2 + 1) (j2 - 1) (by rw [hXr]; exact hs.sw (by omega) (by omega)) (by omega) (by rw [sw_len]; omega) (by rw [sw_len]; omega) (by omega) (Nat.le_refl _)
  rw [hXr,sw_arr] at w2 w3 w6
  rw [hXr] at w5
  rw [sw_len] at w4 w6
  obtain ⟨R,hR⟩ : ∃ R,R = run (partM_l4_3_step X) (sw D i2 j2,(((i2 + 1:Nat):Int),((j2 - 1:Nat):Int))) := ⟨_,rfl⟩
  obtain ⟨m,hm⟩ : ∃ m,m = (Sort.partLoop (ltM r) a (i2 + 1) (j2 - 1) (Sort.swp D.toArray i2 j2)).1 := ⟨_,rfl⟩
  rw [← hm] at w3 w6
  rw [← hR] at w2 w3 w4 w5
  have hM' : partM X = (((m:Int),false),(sw R.1 m a,(false,(false,(false,false))))) := by
   rw [hM,if_neg (by omega),q1,q2,← hR,w3,Int.toNat_natCast]; rfl
  rw [← hX]
  refine ⟨?_,by rw [hM',hE,if_neg hc,hm],by rw [hM',hE,if_neg hc,← w2,← hm]; exact sw_arr _ _ _,by rw [hM']; show (sw R.1 m a).length = _; rw [sw_len]; omega,by rw [hM']; exact w5.sw (by omega) (by omega)⟩
  simp only [partM_pre,letP,hXd,hXp,hX1,hX2,Int.toNat_natCast,List.length_set,hDD,e1,e2,u2,v2,q1,q2]
  have hsw : (D.set i2 (D.getD j2 0)).set j2 (D.getD i2 0) = sw D i2 j2 := rfl
  simp only [hsw,← hR,w3,Int.toNat_natCast]
  repeat' (first | exact u1 | exact v1 | exact w1 | with_reducible apply And.intro | intro _)
  all_goals omega
end Go.Proofs.Ytaipcbdilkcdbaa
