/- Plain laws: the references of layers 8, 15 and 16 say what the program says (1). -/
import Derived.Test.YtkbmjhabfjgoiaaGreatQk
import Derived.Test.YtkbmjhabfjgoiaaGreatCi
noncomputable section
set_option linter.unusedSectionVars false
set_option linter.unusedVariables false
set_option linter.unusedSimpArgs false
namespace Go.Proofs.YtkbmjhabfjgoiaaGreat
open Go Go.Ev Go.Proofs
theorem r8within_law (n a b:Int) : r8within (n,(a,b)) = decide (a ≤ n ∧ n ≤ b) := by
 unfold r8within; exact ite_dec rfl
theorem within_no (i:Int) {n : Nat} (h : n ≤ 2000) : r8within (i,(0,w64 ((n:Int) - 1))) = among (i,((n:Int),false)) := by
 rw [r8within_law,among_law,w64_id (by omega) (by omega),Bool.eq_iff_iff]
 simp only [Bool.false_and,Bool.or_false,decide_eq_true_eq]
 omega
theorem within_yes (i:Int) {n : Nat} (h : n ≤ 2000) : r8within (i,(-1,w64 ((n:Int) - 1))) = among (i,((n:Int),true)) := by
 rw [r8within_law,among_law,w64_id (by omega) (by omega),Bool.eq_iff_iff]
 simp only [Bool.true_and,Bool.or_eq_true,decide_eq_true_eq,beq_iff_eq]
 omega
theorem r8is_l (m : Msh) (h1 : m.1.length ≤ 2000) (h2 : m.2.1.length ≤ 2000) (h3 : m.2.2.1.length ≤ 2000) (h : m.2.2.2.length ≤ 500) : Term (r8is_l0_step m) (r8is_l0_pre m) 0 ∧ Sum.elim (fun _ => false) (fun _ => true) (run (r8is_l0_step m) 0) = m.2.2.2.all (triB m) := by
 rw [← any_not]
 refine all_loop m.2.2.2 (by omega) (fun t => !triB m t) _ _ (fun i hi => ?_) (fun i t ht => ?_) ?_
 ·unfold r8is_l0_pre
  intro h
  simp only [Int.toNat_natCast]
  omega
 ·have hlt := lt_of_get ht
  unfold r8is_l0_step
  rw [if_pos (by omega),Int.toNat_natCast,getD_of ht]
  dsimp only [letV]
  simp only [within_no _ h1,within_yes _ h2,within_yes _ h3]
  unfold triB
  exact ite_and (ite_and (ite_and (ite_and (ite_and (ite_and (ite_and (ite_and (ite_and (ite_and (ite_and (ite_and (ite_and (ite_and rfl)))))))))))))
 ·unfold r8is_l0_step
  rw [if_neg (by omega)]
theorem r8is_law (m : Msh) : r8is_pre m ∧ r8is m = meshB m := by
 unfold r8is_pre r8is meshB
 dsimp only [letP,letV]
 by_cases hf : fewB m = true
 ·obtain ⟨h1,h2,h3,h4⟩ := few_len hf
  rw [hf,if_neg (by omega),if_neg (by omega),if_neg (by omega),if_neg (by omega),(r4all3_law m.1 (by omega)).2,(r4all2_law m.2.1 (by omega)).2,(r4all3_law m.2.2.1 (by omega)).2,(r8is_l m h1 h2 h3 h4).2]
  refine ⟨fun _ _ _ _ => ⟨(r4all3_law m.1 (by omega)).1,fun _ => ⟨(r4all2_law m.2.1 (by omega)).1,fun _ => ⟨(r4all3_law m.2.2.1 (by omega)).1,fun _ => (r8is_l m h1 h2 h3 h4).1⟩⟩⟩,?_⟩
  generalize decide (∀ p ∈ m.1,Is30 p) = b1
  generalize decide (∀ p ∈ m.2.1,Is20 p) = b2
  generalize decide (∀ p ∈ m.2.2.1,Is30 p) = b3
  cases b1 <;> cases b2 <;> cases b3 <;> simp
 ·have hn : ¬ (m.1.length ≤ 2000 ∧ m.2.1.length ≤ 2000 ∧ m.2.2.1.length ≤ 2000 ∧ m.2.2.2.length ≤ 500) := fun q => hf (by unfold fewB; exact decide_eq_true q)
  have hb : fewB m = false := by simpa using hf
  rw [hb]
  refine ⟨fun _ _ _ _ => absurd ?_ hn,?_⟩
  ·omega
  ·split
   ·rfl
   ·split
    ·rfl
    ·split
     ·rfl
     ·split
      ·rfl
      ·exact absurd (by omega) hn
theorem r15within_law (n:Int) : r15within n = decide (-4096 ≤ n ∧ n ≤ 4096) := by
 unfold r15within; exact ite_dec rfl
theorem r15tame_law (m : Msh) (hl : m.1.length < 4611686018427387904) : r15tame_pre m ∧ r15tame m = tameB m := by
 have hh := all_loop m.1 hl (fun p => !decide (Nr p)) (r15tame_l0_step m) (r15tame_l0_pre m) (fun i hi => by
   unfold r15tame_l0_pre
   dsimp only [letP]
   intro h
   simp only [Int.toNat_natCast]
   exact ⟨⟨by omega,h⟩,by omega,by omega,by omega,fun _ => ⟨⟨by omega,h⟩,by omega,by omega,by omega,fun _ => ⟨⟨by omega,h⟩,by omega,by omega,by omega⟩⟩⟩) (fun i p hp => by
   have hlt := lt_of_get hp
   unfold r15tame_l0_step
   rw [if_pos (by omega),Int.toNat_natCast,getD_of hp]
   dsimp only [letV]
   rw [r15within_law,r15within_law,r15within_law,three_if]
   by_cases h : Nr p
   ·rw [if_pos h,decide_eq_true h,if_neg (by decide)]
   ·rw [if_neg h,decide_eq_false h,if_pos (by decide)]) (by
   unfold r15tame_l0_step
   rw [if_neg (by omega)])
 rw [notAny (P := Nr) (fun _ => rfl)] at hh
 unfold r15tame_pre r15tame tameB
 dsimp only [letP,letV]
 rw [(r8is_law m).2]
 obtain ⟨hT,hR⟩ := hh
 cases hr : run (r15tame_l0_step m) 0 with
 | inl a =>
  rw [hr] at hR
  exact ⟨⟨hT,trivial⟩,by rw [← hR]; simp⟩
 | inr b =>
  rw [hr] at hR
  exact ⟨⟨hT,(r8is_law m).1⟩,by rw [← hR]; simp⟩
theorem r15place_law (m : Msh) (i:Int) : r15place (m,i) = decide (Has m i) := bhas_law m i
theorem r15points_law (m : Msh) (i:Int) : r15points (m,i) = Pts m i := rfl
theorem r15points_tm {m : Msh} {i : Int} (hm : tameB m = true) (h : Has m i) : r15points_pre (m,i) := by
 obtain ⟨h1,h2,h3⟩ := triB_v (tame_tri hm h)
 unfold Trg at h1 h2 h3
 unfold r15points_pre
 dsimp only at h1 h2 h3 ⊢
 generalize List.getD m.2.2.2 i.toNat ((0,(0,0)),((0,(0,0)),(0,(0,0)))) = t at h1 h2 h3 ⊢
 omega
theorem r15facing_law (m : Msh) (i:Int) (hl : m.1.length < 4611686018427387904) : r15facing_pre (m,i) ∧ r15facing (m,i) = facing (m,i) := by
 have ht := r15tame_law m hl
 unfold r15facing_pre r15facing facing bway
 dsimp only [letP,letV]
 rw [ht.2,(tame_law m).2,r15place_law,bhas_law,r15points_law,bpoints_law]
 by_cases hm : tameB m = true
 ·by_cases h : Has m i
  ·rw [hm,decide_eq_true h,show Pts m i = ((Pts m i).1,((Pts m i).2.1,(Pts m i).2.2)) from rfl,(r9facing_law _ _ _).2]
   exact ⟨⟨ht.1,fun _ _ => ⟨r15points_tm hm h,(r9facing_law _ _ _).1⟩⟩,rfl⟩
  ·rw [hm,decide_eq_false h]
   exact ⟨⟨ht.1,fun _ q => absurd rfl q⟩,rfl⟩
 ·have hf : tameB m = false := by simpa using hm
  rw [hf]
  exact ⟨⟨ht.1,fun q => absurd rfl q⟩,rfl⟩
theorem r15shadow_law (m : Msh) (i ax:Int) (hl : m.1.length < 4611686018427387904) : r15shadow_pre (m,(i,ax)) ∧ r15shadow (m,(i,ax)) = shadow (m,(i,ax)) := by
 have ht := r15tame_law m hl
 rw [(shadow_law m i ax).2]
 unfold r15shadow_pre r15shadow
 dsimp only [letP,letV]
 rw [ht.2,r15place_law,r15points_law]
 by_cases hm : tameB m = true
 ·rw [hm]
  by_cases h : Has m i
  ·refine ⟨⟨ht.1,fun _ _ _ _ => r15points_tm hm h⟩,?_⟩
   rw [decide_eq_true h,if_neg (by decide),if_neg (by decide)]
   by_cases ha : 0 ≤ ax ∧ ax < 3
   ·rw [if_neg (by omega),if_neg (by omega),if_pos (show true = true ∧ Has m i ∧ 0 ≤ ax ∧ ax < 3 from ⟨rfl,h,ha⟩),r4drop_law,r4drop_law,r4drop_law,if_pos ha,if_pos ha,if_pos ha]
    rfl
   ·rw [if_neg (c := true = true ∧ _) (fun q => ha q.2.2)]
    by_cases h1 : ax < 0
    ·rw [if_pos h1]
    ·rw [if_neg h1,if_pos (by omega)]
  ·refine ⟨⟨ht.1,fun _ q => absurd (by rw [decide_eq_false h]; rfl) q⟩,?_⟩
   rw [decide_eq_false h,if_neg (by decide),if_pos (by decide),if_neg (fun q => h q.2.1)]
 ·have hf : tameB m = false := by simpa using hm
  rw [hf]
  exact ⟨⟨ht.1,fun q => absurd rfl q⟩,rfl⟩
end Go.Proofs.YtkbmjhabfjgoiaaGreat
