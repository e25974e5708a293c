/- Plain laws: the references of layers 4, 8 and 14: meshes and neighbours. -/
import Derived.Test.YtleemdeodmdnkaaKl
import Derived.Test.YtleemdeodmdnkaaEl
noncomputable section
set_option linter.unusedSectionVars false
set_option linter.unusedVariables false
set_option linter.unusedSimpArgs false
namespace Go.Proofs.Ytleemdeodmdnkaa
open Go Go.Ev Go.Proofs
theorem ite_dec {p q : Prop} [Decidable p] [Decidable q] {b : Bool} (h : b = decide q) : (if p then b else false) = decide (p ∧ q) := by
 subst h
 by_cases hp : p <;> simp [hp]
theorem r4near_law (n:Int) : r4near n = decide (-1048576 ≤ n ∧ n ≤ 1048576) := by
 unfold r4near; exact ite_dec rfl
theorem r4is2_law (p : P2) : r4is2 p = decide (Is20 p) := by
 unfold r4is2
 dsimp only [letV]
 rw [r4near_law,r4near_law,Bool.eq_iff_iff]
 simp
theorem r4is3_law (p : P3) : r4is3 p = decide (Is30 p) := by
 unfold r4is3
 dsimp only [letV]
 rw [r4near_law,r4near_law,r4near_law,Bool.eq_iff_iff]
 simp
theorem r4all2_law (x : List P2) (hl : x.length < 4611686018427387904) : r4all2_pre x ∧ r4all2 x = decide (∀ p ∈ x,Is20 p) := by
 rw [← notAny (bad := fun p => !decide (Is20 p)) (fun _ => rfl)]
 refine all_loop x hl _ _ _ (fun i hi => ?_) (fun i v hv => ?_) ?_
 ·unfold r4all2_l0_pre
  intro h
  simp only [Int.toNat_natCast]
  exact ⟨by omega,by omega,by omega⟩
 ·have hlt := lt_of_get hv
  unfold r4all2_l0_step
  rw [if_pos (by omega),Int.toNat_natCast,getD_of hv]
  unfold letV
  rw [r4is2_law]
 ·unfold r4all2_l0_step
  rw [if_neg (by omega)]
theorem r4all3_law (x : List P3) (hl : x.length < 4611686018427387904) : r4all3_pre x ∧ r4all3 x = decide (∀ p ∈ x,Is30 p) := by
 rw [← notAny (bad := fun p => !decide (Is30 p)) (fun _ => rfl)]
 refine all_loop x hl _ _ _ (fun i hi => ?_) (fun i v hv => ?_) ?_
 ·unfold r4all3_l0_pre
  intro h
  simp only [Int.toNat_natCast]
  exact ⟨by omega,by omega,by omega⟩
 ·have hlt := lt_of_get hv
  unfold r4all3_l0_step
  rw [if_pos (by omega),Int.toNat_natCast,getD_of hv]
  unfold letV
  rw [r4is3_law]
 ·unfold r4all3_l0_step
  rw [if_neg (by omega)]
theorem r8within_law (n a b:Int) : r8within (n,(a,b)) = decide (a ≤ n ∧ n ≤ b) := by
 unfold r8within; exact ite_dec rfl
theorem within_no (i:Int) {n : Nat} (h : n ≤ 2000) : r8within (i,(0,w64 ((n:Int) - 1))) = among (i,((n:Int),false)) := by
 rw [r8within_law,among_law,w64_id (by omega) (by omega),Bool.eq_iff_iff]
 simp only [Bool.false_and,Bool.or_false,decide_eq_true_eq]
 omega
theorem within_yes (i:Int) {n : Nat} (h : n ≤ 2000) : r8within (i,(-1,w64 ((n:Int) - 1))) = among (i,((n:Int),true)) := by
 rw [r8within_law,among_law,w64_id (by omega) (by omega),Bool.eq_iff_iff]
 simp only [Bool.true_and,Bool.or_eq_true,decide_eq_true_eq,beq_iff_eq]
 omega
theorem r8is_l (m : Msh) (h1 : m.1.length ≤ 2000) (h2 : m.2.1.length ≤ 2000) (h3 : m.2.2.1.length ≤ 2000) (h : m.2.2.2.length ≤ 500) : Term (r8is_l0_step m) (r8is_l0_pre m) 0 ∧ Sum.elim (fun _ => false) (fun _ => true) (run (r8is_l0_step m) 0) = m.2.2.2.all (triB m) := by
 rw [← any_not]
 refine all_loop m.2.2.2 (by omega) (fun t => !triB m t) _ _ (fun i hi => ?_) (fun i t ht => ?_) ?_
 ·unfold r8is_l0_pre
  intro h
  simp only [Int.toNat_natCast]
  omega
 ·have hlt := lt_of_get ht
  unfold r8is_l0_step
  rw [if_pos (by omega),Int.toNat_natCast,getD_of ht]
  dsimp only [letV]
  simp only [within_no _ h1,within_yes _ h2,within_yes _ h3]
  unfold triB
  exact ite_and (ite_and (ite_and (ite_and (ite_and (ite_and (ite_and (ite_and (ite_and (ite_and (ite_and (ite_and (ite_and (ite_and rfl)))))))))))))
 ·unfold r8is_l0_step
  rw [if_neg (by omega)]
theorem r8is_law (m : Msh) : r8is_pre m ∧ r8is m = meshB m := by
 unfold r8is_pre r8is meshB
 dsimp only [letP,letV]
 by_cases hf : fewB m = true
 ·obtain ⟨h1,h2,h3,h4⟩ := few_len hf
  rw [hf,if_neg (by omega),if_neg (by omega),if_neg (by omega),if_neg (by omega),(r4all3_law m.1 (by omega)).2,(r4all2_law m.2.1 (by omega)).2,(r4all3_law m.2.2.1 (by omega)).2,(r8is_l m h1 h2 h3 h4).2]
  refine ⟨fun _ _ _ _ => ⟨(r4all3_law m.1 (by omega)).1,fun _ => ⟨(r4all2_law m.2.1 (by omega)).1,fun _ => ⟨(r4all3_law m.2.2.1 (by omega)).1,fun _ => (r8is_l m h1 h2 h3 h4).1⟩⟩⟩,?_⟩
  generalize decide (∀ p ∈ m.1,Is30 p) = b1
  generalize decide (∀ p ∈ m.2.1,Is20 p) = b2
  generalize decide (∀ p ∈ m.2.2.1,Is30 p) = b3
  cases b1 <;> cases b2 <;> cases b3 <;> simp
 ·have hn : ¬ (m.1.length ≤ 2000 ∧ m.2.1.length ≤ 2000 ∧ m.2.2.1.length ≤ 2000 ∧ m.2.2.2.length ≤ 500) := fun q => hf (by unfold fewB; exact decide_eq_true q)
  have hb : fewB m = false := by simpa using hf
  rw [hb]
  refine ⟨fun _ _ _ _ => absurd ?_ hn,?_⟩
  ·omega
  ·split
   ·rfl
   ·split
    ·rfl
    ·split
     ·rfl
     ·split
      ·rfl
      ·exact absurd (by omega) hn
theorem hasIf (x y a b:Int) {α : Type} {A B : α} : (if (x != y) = true then (if (x == a) = true then (if (y == b) = true then A else (if (x == b) = true then (if (y == a) = true then A else B) else B)) else (if (x == b) = true then (if (y == a) = true then A else B) else B)) else B) = if (x ≠ y ∧ ((x = a ∧ y = b) ∨ (x = b ∧ y = a))) then A else B := by
 simp only [bne_iff_ne,beq_iff_eq]
 by_cases hE : x ≠ y ∧ ((x = a ∧ y = b) ∨ (x = b ∧ y = a))
 ·rw [if_pos hE,if_pos hE.1]
  rcases hE.2 with ⟨h1,h2⟩ | ⟨h1,h2⟩
  ·rw [if_pos h1,if_pos h2]
  ·by_cases h3 : x = a
   ·rw [if_pos h3]
    by_cases h4 : y = b
    ·rw [if_pos h4]
    ·rw [if_neg h4,if_pos h1,if_pos h2]
   ·rw [if_neg h3,if_pos h1,if_pos h2]
 ·rw [if_neg hE]
  by_cases h0 : x = y
  ·rw [if_neg (fun h => h h0)]
  ·rw [if_pos h0]
   have h1 : ¬ (x = a ∧ y = b) := fun q => hE ⟨h0,.inl q⟩
   have h2 : ¬ (x = b ∧ y = a) := fun q => hE ⟨h0,.inr q⟩
   have tail : (if x = b then (if y = a then A else B) else B) = B := by
    by_cases h3 : x = b
    ·rw [if_pos h3,if_neg (fun q => h2 ⟨h3,q⟩)]
    ·rw [if_neg h3]
   rw [tail]
   by_cases h3 : x = a
   ·rw [if_pos h3,if_neg (fun q => h1 ⟨h3,q⟩)]
   ·rw [if_neg h3]
theorem edge_iff (x y a b:Int) : (x ≠ y ∧ ((x = a ∧ y = b) ∨ (x = b ∧ y = a))) ↔ (a ≠ b ∧ (minI a b,maxI a b) ∈ Pr x y) := by
 unfold Pr
 by_cases h : x = y
 ·rw [if_neg (fun q => q h)]
  simp; omega
 ·rw [if_pos h,List.mem_singleton,Prod.mk.injEq]
  unfold minI maxI
  split <;> split <;> omega
theorem r14has_law (t : T3) (a b:Int) : r14has_pre (t,(a,b)) ∧ (r14has (t,(a,b)) = true ↔ a ≠ b ∧ (minI a b,maxI a b) ∈ Prs t) := by
 have p : ∀ i : Int,(i = 0 ∨ i = 1 ∨ i = 2 ∨ i = 3) → r14has_l0_pre (t,(a,b)) i := fun i h => by
  unfold r14has_l0_pre
  intro hi
  rcases h with rfl | rfl | rfl | rfl
  ·exact ⟨⟨by decide,hi⟩,by decide,⟨by decide,by decide⟩,by decide⟩
  ·exact ⟨⟨by decide,hi⟩,by decide,⟨by decide,by decide⟩,by decide⟩
  ·exact ⟨⟨by decide,hi⟩,by decide,⟨by decide,by decide⟩,by decide⟩
  ·exact absurd hi (by decide)
 have s0 : r14has_l0_step (t,(a,b)) 0 = if (t.1.1 ≠ t.2.1.1 ∧ ((t.1.1 = a ∧ t.2.1.1 = b) ∨ (t.1.1 = b ∧ t.2.1.1 = a))) then .inr (.inl ()) else .inl 1 := by
  unfold r14has_l0_step
  rw [if_pos (by decide),show w64 ((0:Int) + 1) = 1 from by decide,show Int.tmod 1 3 = 1 from by decide]
  exact hasIf t.1.1 t.2.1.1 a b
 have s1 : r14has_l0_step (t,(a,b)) 1 = if (t.2.1.1 ≠ t.2.2.1 ∧ ((t.2.1.1 = a ∧ t.2.2.1 = b) ∨ (t.2.1.1 = b ∧ t.2.2.1 = a))) then .inr (.inl ()) else .inl 2 := by
  unfold r14has_l0_step
  rw [if_pos (by decide),show w64 ((1:Int) + 1) = 2 from by decide,show Int.tmod 2 3 = 2 from by decide]
  exact hasIf t.2.1.1 t.2.2.1 a b
 have s2 : r14has_l0_step (t,(a,b)) 2 = if (t.2.2.1 ≠ t.1.1 ∧ ((t.2.2.1 = a ∧ t.1.1 = b) ∨ (t.2.2.1 = b ∧ t.1.1 = a))) then .inr (.inl ()) else .inl 3 := by
  unfold r14has_l0_step
  rw [if_pos (by decide),show w64 ((2:Int) + 1) = 3 from by decide,show Int.tmod 3 3 = 0 from by decide]
  exact hasIf t.2.2.1 t.1.1 a b
 have s3 : r14has_l0_step (t,(a,b)) 3 = .inr (.inr ()) := by
  unfold r14has_l0_step
  rw [if_neg (by decide)]
 have hP : (a ≠ b ∧ (minI a b,maxI a b) ∈ Prs t) ↔ ((t.1.1 ≠ t.2.1.1 ∧ ((t.1.1 = a ∧ t.2.1.1 = b) ∨ (t.1.1 = b ∧ t.2.1.1 = a))) ∨ (t.2.1.1 ≠ t.2.2.1 ∧ ((t.2.1.1 = a ∧ t.2.2.1 = b) ∨ (t.2.1.1 = b ∧ t.2.2.1 = a))) ∨ (t.2.2.1 ≠ t.1.1 ∧ ((t.2.2.1 = a ∧ t.1.1 = b) ∨ (t.2.2.1 = b ∧ t.1.1 = a)))) := by
  rw [edge_iff,edge_iff,edge_iff]
  unfold Prs
  rw [List.mem_append,List.mem_append]
  constructor
  ·rintro ⟨h0,(h | h) | h⟩
   ·exact .inl ⟨h0,h⟩
   ·exact .inr (.inl ⟨h0,h⟩)
   ·exact .inr (.inr ⟨h0,h⟩)
  ·rintro (⟨h0,h⟩ | ⟨h0,h⟩ | ⟨h0,h⟩)
   ·exact ⟨h0,.inl (.inl h)⟩
   ·exact ⟨h0,.inl (.inr h)⟩
   ·exact ⟨h0,.inr h⟩
 rw [hP]
 have key : TR (r14has_l0_step (t,(a,b))) (r14has_l0_pre (t,(a,b))) 0 (fun r => Sum.elim (fun _ => true) (fun _ => false) r = true ↔ ((t.1.1 ≠ t.2.1.1 ∧ ((t.1.1 = a ∧ t.2.1.1 = b) ∨ (t.1.1 = b ∧ t.2.1.1 = a))) ∨ (t.2.1.1 ≠ t.2.2.1 ∧ ((t.2.1.1 = a ∧ t.2.2.1 = b) ∨ (t.2.1.1 = b ∧ t.2.2.1 = a))) ∨ (t.2.2.1 ≠ t.1.1 ∧ ((t.2.2.1 = a ∧ t.1.1 = b) ∨ (t.2.2.1 = b ∧ t.1.1 = a))))) := by
  by_cases h0 : (t.1.1 ≠ t.2.1.1 ∧ ((t.1.1 = a ∧ t.2.1.1 = b) ∨ (t.1.1 = b ∧ t.2.1.1 = a)))
  ·exact TR.stop (p 0 (.inl rfl)) (by rw [s0,if_pos h0]) ⟨fun _ => .inl h0,fun _ => rfl⟩
  ·refine TR.go (p 0 (.inl rfl)) (by rw [s0,if_neg h0]) ?_
   by_cases h1 : (t.2.1.1 ≠ t.2.2.1 ∧ ((t.2.1.1 = a ∧ t.2.2.1 = b) ∨ (t.2.1.1 = b ∧ t.2.2.1 = a)))
   ·exact TR.stop (p 1 (.inr (.inl rfl))) (by rw [s1,if_pos h1]) ⟨fun _ => .inr (.inl h1),fun _ => rfl⟩
   ·refine TR.go (p 1 (.inr (.inl rfl))) (by rw [s1,if_neg h1]) ?_
    by_cases h2 : (t.2.2.1 ≠ t.1.1 ∧ ((t.2.2.1 = a ∧ t.1.1 = b) ∨ (t.2.2.1 = b ∧ t.1.1 = a)))
    ·exact TR.stop (p 2 (.inr (.inr (.inl rfl)))) (by rw [s2,if_pos h2]) ⟨fun _ => .inr (.inr h2),fun _ => rfl⟩
    ·refine TR.go (p 2 (.inr (.inr (.inl rfl)))) (by rw [s2,if_neg h2]) ?_
     refine TR.stop (p 3 (.inr (.inr (.inr rfl)))) s3 ⟨fun h => (by cases h),fun h => ?_⟩
     rcases h with h | h | h
     ·exact absurd h h0
     ·exact absurd h h1
     ·exact absurd h h2
 exact ⟨key.1,key.2⟩
theorem nxIf (x y:Int) (h : Bool) {α : Type} {A B : α} : (if (x != y) = true then (letV h fun q => if q = true then A else B) else B) = if (x ≠ y ∧ h = true) then A else B := by
 simp only [bne_iff_ne,letV]
 by_cases h0 : x = y
 ·rw [if_neg (fun q => q h0),if_neg (fun q => q.1 h0)]
 ·rw [if_pos h0]
  cases h with
  | true => rw [if_pos rfl,if_pos ⟨h0,rfl⟩]
  | false => rw [if_neg (by decide),if_neg (fun q => by cases q.2)]
theorem nx_iff (x y:Int) (t : T3) : (x ≠ y ∧ r14has (t,(x,y)) = true) ↔ ∃ p ∈ Pr x y,p ∈ Prs t := by
 rw [(r14has_law t x y).2]
 unfold Pr
 by_cases h : x = y
 ·rw [if_neg (fun q => q h)]
  constructor
  ·intro q; exact absurd h q.1
  ·rintro ⟨p,hp,_⟩; cases hp
 ·rw [if_pos h]
  constructor
  ·rintro ⟨_,_,q⟩; exact ⟨_,List.mem_singleton.2 rfl,q⟩
  ·rintro ⟨p,hp,q⟩
   rw [List.mem_singleton.1 hp] at q
   exact ⟨h,h,q⟩
theorem r14nx_law {m : Msh} {i k : Int} (hi : Has m i) (hk : Has m k) : r14nx_pre (m,(i,k)) ∧ (r14nx (m,(i,k)) = true ↔ Adj m i k) := by
 have hi1 := hi.1
 have hi2 := hi.2
 have hk1 := hk.1
 have hk2 := hk.2
 have hkn : k.toNat < m.2.2.2.length := by omega
 have p : ∀ s : Int,(s = 0 ∨ s = 1 ∨ s = 2 ∨ s = 3) → r14nx_l0_pre (m,(i,k)) s := fun s h => by
  unfold r14nx_l0_pre
  intro hi
  rcases h with rfl | rfl | rfl | rfl
  ·exact ⟨⟨by decide,hi⟩,by decide,⟨by decide,by decide⟩,by decide,fun _ => ⟨hk,hkn,hkn,⟨by decide,hi⟩,by decide,⟨by decide,by decide⟩,by decide,(r14has_law _ _ _).1⟩⟩
  ·exact ⟨⟨by decide,hi⟩,by decide,⟨by decide,by decide⟩,by decide,fun _ => ⟨hk,hkn,hkn,⟨by decide,hi⟩,by decide,⟨by decide,by decide⟩,by decide,(r14has_law _ _ _).1⟩⟩
  ·exact ⟨⟨by decide,hi⟩,by decide,⟨by decide,by decide⟩,by decide,fun _ => ⟨hk,hkn,hkn,⟨by decide,hi⟩,by decide,⟨by decide,by decide⟩,by decide,(r14has_law _ _ _).1⟩⟩
  ·exact absurd hi (by decide)
 obtain ⟨t,ht⟩ : ∃ t,t = Trg m i := ⟨_,rfl⟩
 obtain ⟨u,hu⟩ : ∃ u,u = Trg m k := ⟨_,rfl⟩
 have s0 : r14nx_l0_step (m,(i,k)) 0 = if (t.1.1 ≠ t.2.1.1 ∧ r14has (u,(t.1.1,t.2.1.1)) = true) then .inr (.inl ()) else .inl 1 := by
  unfold r14nx_l0_step
  rw [if_pos (by decide),show w64 ((0:Int) + 1) = 1 from by decide,show Int.tmod 1 3 = 1 from by decide,ht,hu]
  exact nxIf (Trg m i).1.1 (Trg m i).2.1.1 (r14has (Trg m k,((Trg m i).1.1,(Trg m i).2.1.1)))
 have s1 : r14nx_l0_step (m,(i,k)) 1 = if (t.2.1.1 ≠ t.2.2.1 ∧ r14has (u,(t.2.1.1,t.2.2.1)) = true) then .inr (.inl ()) else .inl 2 := by
  unfold r14nx_l0_step
  rw [if_pos (by decide),show w64 ((1:Int) + 1) = 2 from by decide,show Int.tmod 2 3 = 2 from by decide,ht,hu]
  exact nxIf (Trg m i).2.1.1 (Trg m i).2.2.1 (r14has (Trg m k,((Trg m i).2.1.1,(Trg m i).2.2.1)))
 have s2 : r14nx_l0_step (m,(i,k)) 2 = if (t.2.2.1 ≠ t.1.1 ∧ r14has (u,(t.2.2.1,t.1.1)) = true) then .inr (.inl ()) else .inl 3 := by
  unfold r14nx_l0_step
  rw [if_pos (by decide),show w64 ((2:Int) + 1) = 3 from by decide,show Int.tmod 3 3 = 0 from by decide,ht,hu]
  exact nxIf (Trg m i).2.2.1 (Trg m i).1.1 (r14has (Trg m k,((Trg m i).2.2.1,(Trg m i).1.1)))
 have s3 : r14nx_l0_step (m,(i,k)) 3 = .inr (.inr ()) := by
  unfold r14nx_l0_step
  rw [if_neg (by decide)]
 have hP : (∃ p ∈ Prs t,p ∈ Prs u) ↔ ((t.1.1 ≠ t.2.1.1 ∧ r14has (u,(t.1.1,t.2.1.1)) = true) ∨ (t.2.1.1 ≠ t.2.2.1 ∧ r14has (u,(t.2.1.1,t.2.2.1)) = true) ∨ (t.2.2.1 ≠ t.1.1 ∧ r14has (u,(t.2.2.1,t.1.1)) = true)) := by
  rw [nx_iff,nx_iff,nx_iff]
  rw [show Prs t = Pr t.1.1 t.2.1.1 ++ Pr t.2.1.1 t.2.2.1 ++ Pr t.2.2.1 t.1.1 from rfl]
  constructor
  ·rintro ⟨p,h,h'⟩
   rw [List.mem_append,List.mem_append] at h
   rcases h with (h | h) | h
   ·exact .inl ⟨p,h,h'⟩
   ·exact .inr (.inl ⟨p,h,h'⟩)
   ·exact .inr (.inr ⟨p,h,h'⟩)
  ·rintro (⟨p,h,h'⟩ | ⟨p,h,h'⟩ | ⟨p,h,h'⟩)
   ·exact ⟨p,by rw [List.mem_append,List.mem_append]; exact .inl (.inl h),h'⟩
   ·exact ⟨p,by rw [List.mem_append,List.mem_append]; exact .inl (.inr h),h'⟩
   ·exact ⟨p,by rw [List.mem_append,List.mem_append]; exact .inr h,h'⟩
 have key : TR (r14nx_l0_step (m,(i,k))) (r14nx_l0_pre (m,(i,k))) 0 (fun r => Sum.elim (fun _ => true) (fun _ => false) r = true ↔ ∃ p ∈ Prs t,p ∈ Prs u) := by
  rw [hP]
  by_cases h0 : (t.1.1 ≠ t.2.1.1 ∧ r14has (u,(t.1.1,t.2.1.1)) = true)
  ·exact TR.stop (p 0 (.inl rfl)) (by rw [s0,if_pos h0]) ⟨fun _ => .inl h0,fun _ => rfl⟩
  ·refine TR.go (p 0 (.inl rfl)) (by rw [s0,if_neg h0]) ?_
   by_cases h1 : (t.2.1.1 ≠ t.2.2.1 ∧ r14has (u,(t.2.1.1,t.2.2.1)) = true)
   ·exact TR.stop (p 1 (.inr (.inl rfl))) (by rw [s1,if_pos h1]) ⟨fun _ => .inr (.inl h1),fun _ => rfl⟩
   ·refine TR.go (p 1 (.inr (.inl rfl))) (by rw [s1,if_neg h1]) ?_
    by_cases h2 : (t.2.2.1 ≠ t.1.1 ∧ r14has (u,(t.2.2.1,t.1.1)) = true)
    ·exact TR.stop (p 2 (.inr (.inr (.inl rfl)))) (by rw [s2,if_pos h2]) ⟨fun _ => .inr (.inr h2),fun _ => rfl⟩
    ·refine TR.go (p 2 (.inr (.inr (.inl rfl)))) (by rw [s2,if_neg h2]) ?_
     refine TR.stop (p 3 (.inr (.inr (.inr rfl)))) s3 ⟨fun h => (by cases h),fun h => ?_⟩
     rcases h with h | h | h
     ·exact absurd h h0
     ·exact absurd h h1
     ·exact absurd h h2
 unfold r14nx_pre r14nx
 dsimp only [letV]
 refine ⟨fun _ => ⟨hi,by omega,by omega,key.1⟩,?_⟩
 by_cases hik : i = k
 ·rw [if_pos (by simpa using hik)]
  exact ⟨fun h => (by cases h),fun h => absurd hik.symm h.1⟩
 ·rw [if_neg (by simpa using hik)]
  refine key.2.trans ?_
  unfold Adj
  rw [← ht,← hu]
  exact ⟨fun h => ⟨fun e => hik e.symm,hk,h⟩,fun h => h.2.2⟩
theorem r14next_law {m : Msh} (hm : meshB m = true) {i : Int} (hi : Has m i) : r14next_pre (m,i) ∧ (∀ k,k ∈ (r14next (m,i)).1 ↔ Adj m i k) ∧ (r14next (m,i)).1.length ≤ 500 := by
 have hn := (mesh_len hm).2.2.2
 obtain ⟨t1,t2⟩ := r8is_law m
 have key : TR (r14next_l0_step (m,i)) (r14next_l0_pre (m,i)) ([],0) (fun r => r.length ≤ 500 ∧ ∀ k,k ∈ r ↔ Adj m i k) := by
  refine for_loop m.2.2.2.length (fun j s => ∃ o,s = (o,(j:Int)) ∧ o.length ≤ j ∧ ∀ k,k ∈ o ↔ Adj m i k ∧ k < j) _ (fun j s hj ⟨o,e,h1,h2⟩ => ?_) (fun s ⟨o,e,h1,h2⟩ => ?_) ⟨[],rfl,Nat.le_refl _,fun k => by
   constructor
   ·intro h; cases h
   ·rintro ⟨h,h'⟩
    have := h.2.1.1
    omega⟩
  ·subst e
   obtain ⟨n1,n2⟩ := r14nx_law hi (k := (j:Int)) ⟨by omega,by omega⟩
   constructor
   ·unfold r14next_l0_pre
    dsimp only [letP]
    intro _
    exact ⟨n1,fun _ => by omega⟩
   ·refine .inl ?_
    unfold r14next_l0_step
    dsimp only [letV]
    rw [if_pos (by omega),cnt (n := 500) (by omega) (by omega)]
    by_cases h : r14nx (m,(i,(j:Int))) = true
    ·rw [if_pos h]
     refine ⟨_,rfl,_,rfl,by rw [List.length_append,List.length_singleton]; omega,fun k => ?_⟩
     rw [List.mem_append,List.mem_singleton,h2 k]
     constructor
     ·rintro (q | rfl)
      ·exact ⟨q.1,by omega⟩
      ·exact ⟨n2.1 h,by omega⟩
     ·rintro ⟨q,q'⟩
      by_cases hkj : k = j
      ·exact .inr hkj
      ·exact .inl ⟨q,by omega⟩
    ·rw [if_neg h]
     refine ⟨_,rfl,o,rfl,by omega,fun k => ?_⟩
     rw [h2 k]
     constructor
     ·exact fun q => ⟨q.1,by omega⟩
     ·rintro ⟨q,q'⟩
      by_cases hkj : k = j
      ·rw [hkj] at q
       exact absurd (n2.2 q) h
      ·exact ⟨q,by omega⟩
  ·subst e
   constructor
   ·unfold r14next_l0_pre
    dsimp only
    intro h; omega
   ·unfold r14next_l0_step
    dsimp only
    rw [if_neg (by omega)]
    refine ⟨_,rfl,by omega,fun k => (h2 k).trans ⟨fun q => q.1,fun q => ⟨q,q.2.1.2⟩⟩⟩
 unfold r14next_pre r14next
 dsimp only [letP,letV]
 rw [t2,hm,if_neg (by decide),if_neg (by have := hi.1; omega),if_neg (by have := hi.2; omega)]
 exact ⟨⟨t1,fun _ _ _ => key.1⟩,key.2.2,key.2.1⟩
end Go.Proofs.Ytleemdeodmdnkaa
