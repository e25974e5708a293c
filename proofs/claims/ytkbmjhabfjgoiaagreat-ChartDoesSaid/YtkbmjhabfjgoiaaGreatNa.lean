/- Plain laws: the references of layers 14 and 15: neighbours, what fits. -/
import Derived.Test.YtkbmjhabfjgoiaaGreatNb
import Derived.Test.YtkbmjhabfjgoiaaGreatQl
import Derived.Test.YtkbmjhabfjgoiaaGreatCj
noncomputable section
set_option linter.unusedSectionVars false
set_option linter.unusedVariables false
set_option linter.unusedSimpArgs false
namespace Go.Proofs.YtkbmjhabfjgoiaaGreat
open Go Go.Ev Go.Proofs
theorem hasIf (x y a b:Int) {α : Type} {A B : α} : (if (x != y) = true then (if (x == a) = true then (if (y == b) = true then A else (if (x == b) = true then (if (y == a) = true then A else B) else B)) else (if (x == b) = true then (if (y == a) = true then A else B) else B)) else B) = if (x ≠ y ∧ ((x = a ∧ y = b) ∨ (x = b ∧ y = a))) then A else B := by
 simp only [bne_iff_ne,beq_iff_eq]
 by_cases hE : x ≠ y ∧ ((x = a ∧ y = b) ∨ (x = b ∧ y = a))
 ·rw [if_pos hE,if_pos hE.1]
  rcases hE.2 with ⟨h1,h2⟩ | ⟨h1,h2⟩
  ·rw [if_pos h1,if_pos h2]
  ·by_cases h3 : x = a
   ·rw [if_pos h3]
    by_cases h4 : y = b
    ·rw [if_pos h4]
    ·rw [if_neg h4,if_pos h1,if_pos h2]
   ·rw [if_neg h3,if_pos h1,if_pos h2]
 ·rw [if_neg hE]
  by_cases h0 : x = y
  ·rw [if_neg (fun h => h h0)]
  ·rw [if_pos h0]
   have h1 : ¬ (x = a ∧ y = b) := fun q => hE ⟨h0,.inl q⟩
   have h2 : ¬ (x = b ∧ y = a) := fun q => hE ⟨h0,.inr q⟩
   have tail : (if x = b then (if y = a then A else B) else B) = B := by
    by_cases h3 : x = b
    ·rw [if_pos h3,if_neg (fun q => h2 ⟨h3,q⟩)]
    ·rw [if_neg h3]
   rw [tail]
   by_cases h3 : x = a
   ·rw [if_pos h3,if_neg (fun q => h1 ⟨h3,q⟩)]
   ·rw [if_neg h3]
theorem edge_iff (x y a b:Int) : (x ≠ y ∧ ((x = a ∧ y = b) ∨ (x = b ∧ y = a))) ↔ (a ≠ b ∧ (minI a b,maxI a b) ∈ Pr x y) := by
 unfold Pr
 by_cases h : x = y
 ·rw [if_neg (fun q => q h)]
  simp; omega
 ·rw [if_pos h,List.mem_singleton,Prod.mk.injEq]
  unfold minI maxI
  split <;> split <;> omega
theorem r14has_law (t : T3) (a b:Int) : r14has_pre (t,(a,b)) ∧ (r14has (t,(a,b)) = true ↔ a ≠ b ∧ (minI a b,maxI a b) ∈ Prs t) := by
 have p : ∀ i : Int,(i = 0 ∨ i = 1 ∨ i = 2 ∨ i = 3) → r14has_l0_pre (t,(a,b)) i := fun i h => by
  unfold r14has_l0_pre
  intro hi
  rcases h with rfl | rfl | rfl | rfl
  ·exact ⟨⟨by decide,hi⟩,by decide,⟨by decide,by decide⟩,by decide⟩
  ·exact ⟨⟨by decide,hi⟩,by decide,⟨by decide,by decide⟩,by decide⟩
  ·exact ⟨⟨by decide,hi⟩,by decide,⟨by decide,by decide⟩,by decide⟩
  ·exact absurd hi (by decide)
 have s0 : r14has_l0_step (t,(a,b)) 0 = if (t.1.1 ≠ t.2.1.1 ∧ ((t.1.1 = a ∧ t.2.1.1 = b) ∨ (t.1.1 = b ∧ t.2.1.1 = a))) then .inr (.inl ()) else .inl 1 := by
  unfold r14has_l0_step
  rw [if_pos (by decide),show w64 ((0:Int) + 1) = 1 from by decide,show Int.tmod 1 3 = 1 from by decide]
  exact hasIf t.1.1 t.2.1.1 a b
 have s1 : r14has_l0_step (t,(a,b)) 1 = if (t.2.1.1 ≠ t.2.2.1 ∧ ((t.2.1.1 = a ∧ t.2.2.1 = b) ∨ (t.2.1.1 = b ∧ t.2.2.1 = a))) then .inr (.inl ()) else .inl 2 := by
  unfold r14has_l0_step
  rw [if_pos (by decide),show w64 ((1:Int) + 1) = 2 from by decide,show Int.tmod 2 3 = 2 from by decide]
  exact hasIf t.2.1.1 t.2.2.1 a b
 have s2 : r14has_l0_step (t,(a,b)) 2 = if (t.2.2.1 ≠ t.1.1 ∧ ((t.2.2.1 = a ∧ t.1.1 = b) ∨ (t.2.2.1 = b ∧ t.1.1 = a))) then .inr (.inl ()) else .inl 3 := by
  unfold r14has_l0_step
  rw [if_pos (by decide),show w64 ((2:Int) + 1) = 3 from by decide,show Int.tmod 3 3 = 0 from by decide]
  exact hasIf t.2.2.1 t.1.1 a b
 have s3 : r14has_l0_step (t,(a,b)) 3 = .inr (.inr ()) := by
  unfold r14has_l0_step
  rw [if_neg (by decide)]
 have hP : (a ≠ b ∧ (minI a b,maxI a b) ∈ Prs t) ↔ ((t.1.1 ≠ t.2.1.1 ∧ ((t.1.1 = a ∧ t.2.1.1 = b) ∨ (t.1.1 = b ∧ t.2.1.1 = a))) ∨ (t.2.1.1 ≠ t.2.2.1 ∧ ((t.2.1.1 = a ∧ t.2.2.1 = b) ∨ (t.2.1.1 = b ∧ t.2.2.1 = a))) ∨ (t.2.2.1 ≠ t.1.1 ∧ ((t.2.2.1 = a ∧ t.1.1 = b) ∨ (t.2.2.1 = b ∧ t.1.1 = a)))) := by
  rw [edge_iff,edge_iff,edge_iff]
  unfold Prs
  rw [List.mem_append,List.mem_append]
  constructor
  ·rintro ⟨h0,(h | h) | h⟩
   ·exact .inl ⟨h0,h⟩
   ·exact .inr (.inl ⟨h0,h⟩)
   ·exact .inr (.inr ⟨h0,h⟩)
  ·rintro (⟨h0,h⟩ | ⟨h0,h⟩ | ⟨h0,h⟩)
   ·exact ⟨h0,.inl (.inl h)⟩
   ·exact ⟨h0,.inl (.inr h)⟩
   ·exact ⟨h0,.inr h⟩
 rw [hP]
 have key : TR (r14has_l0_step (t,(a,b))) (r14has_l0_pre (t,(a,b))) 0 (fun r => Sum.elim (fun _ => true) (fun _ => false) r = true ↔ ((t.1.1 ≠ t.2.1.1 ∧ ((t.1.1 = a ∧ t.2.1.1 = b) ∨ (t.1.1 = b ∧ t.2.1.1 = a))) ∨ (t.2.1.1 ≠ t.2.2.1 ∧ ((t.2.1.1 = a ∧ t.2.2.1 = b) ∨ (t.2.1.1 = b ∧ t.2.2.1 = a))) ∨ (t.2.2.1 ≠ t.1.1 ∧ ((t.2.2.1 = a ∧ t.1.1 = b) ∨ (t.2.2.1 = b ∧ t.1.1 = a))))) := by
  by_cases h0 : (t.1.1 ≠ t.2.1.1 ∧ ((t.1.1 = a ∧ t.2.1.1 = b) ∨ (t.1.1 = b ∧ t.2.1.1 = a)))
  ·exact TR.stop (p 0 (.inl rfl)) (by rw [s0,if_pos h0]) ⟨fun _ => .inl h0,fun _ => rfl⟩
  ·refine TR.go (p 0 (.inl rfl)) (by rw [s0,if_neg h0]) ?_
   by_cases h1 : (t.2.1.1 ≠ t.2.2.1 ∧ ((t.2.1.1 = a ∧ t.2.2.1 = b) ∨ (t.2.1.1 = b ∧ t.2.2.1 = a)))
   ·exact TR.stop (p 1 (.inr (.inl rfl))) (by rw [s1,if_pos h1]) ⟨fun _ => .inr (.inl h1),fun _ => rfl⟩
   ·refine TR.go (p 1 (.inr (.inl rfl))) (by rw [s1,if_neg h1]) ?_
    by_cases h2 : (t.2.2.1 ≠ t.1.1 ∧ ((t.2.2.1 = a ∧ t.1.1 = b) ∨ (t.2.2.1 = b ∧ t.1.1 = a)))
    ·exact TR.stop (p 2 (.inr (.inr (.inl rfl)))) (by rw [s2,if_pos h2]) ⟨fun _ => .inr (.inr h2),fun _ => rfl⟩
    ·refine TR.go (p 2 (.inr (.inr (.inl rfl)))) (by rw [s2,if_neg h2]) ?_
     refine TR.stop (p 3 (.inr (.inr (.inr rfl)))) s3 ⟨fun h => (by cases h),fun h => ?_⟩
     rcases h with h | h | h
     ·exact absurd h h0
     ·exact absurd h h1
     ·exact absurd h h2
 exact ⟨key.1,key.2⟩
theorem nxIf (x y:Int) (h : Bool) {α : Type} {A B : α} : (if (x != y) = true then (letV h fun q => if q = true then A else B) else B) = if (x ≠ y ∧ h = true) then A else B := by
 simp only [bne_iff_ne,letV]
 by_cases h0 : x = y
 ·rw [if_neg (fun q => q h0),if_neg (fun q => q.1 h0)]
 ·rw [if_pos h0]
  cases h with
  | true => rw [if_pos rfl,if_pos ⟨h0,rfl⟩]
  | false => rw [if_neg (by decide),if_neg (fun q => by cases q.2)]
theorem nx_iff (x y:Int) (t : T3) : (x ≠ y ∧ r14has (t,(x,y)) = true) ↔ ∃ p ∈ Pr x y,p ∈ Prs t := by
 rw [(r14has_law t x y).2]
 unfold Pr
 by_cases h : x = y
 ·rw [if_neg (fun q => q h)]
  constructor
  ·intro q; exact absurd h q.1
  ·rintro ⟨p,hp,_⟩; cases hp
 ·rw [if_pos h]
  constructor
  ·rintro ⟨_,_,q⟩; exact ⟨_,List.mem_singleton.2 rfl,q⟩
  ·rintro ⟨p,hp,q⟩
   rw [List.mem_singleton.1 hp] at q
   exact ⟨h,h,q⟩
theorem r14nx_law {m : Msh} {i k : Int} (hi : Has m i) (hk : Has m k) : r14nx_pre (m,(i,k)) ∧ (r14nx (m,(i,k)) = true ↔ Adj m i k) := by
 have hi1 := hi.1
 have hi2 := hi.2
 have hk1 := hk.1
 have hk2 := hk.2
 have hkn : k.toNat < m.2.2.2.length := by omega
 have p : ∀ s : Int,(s = 0 ∨ s = 1 ∨ s = 2 ∨ s = 3) → r14nx_l0_pre (m,(i,k)) s := fun s h => by
  unfold r14nx_l0_pre
  intro hi
  rcases h with rfl | rfl | rfl | rfl
  ·exact ⟨⟨by decide,hi⟩,by decide,⟨by decide,by decide⟩,by decide,fun _ => ⟨hk,hkn,hkn,⟨by decide,hi⟩,by decide,⟨by decide,by decide⟩,by decide,(r14has_law _ _ _).1⟩⟩
  ·exact ⟨⟨by decide,hi⟩,by decide,⟨by decide,by decide⟩,by decide,fun _ => ⟨hk,hkn,hkn,⟨by decide,hi⟩,by decide,⟨by decide,by decide⟩,by decide,(r14has_law _ _ _).1⟩⟩
  ·exact ⟨⟨by decide,hi⟩,by decide,⟨by decide,by decide⟩,by decide,fun _ => ⟨hk,hkn,hkn,⟨by decide,hi⟩,by decide,⟨by decide,by decide⟩,by decide,(r14has_law _ _ _).1⟩⟩
  ·exact absurd hi (by decide)
 obtain ⟨t,ht⟩ : ∃ t,t = Trg m i := ⟨_,rfl⟩
 obtain ⟨u,hu⟩ : ∃ u,u = Trg m k := ⟨_,rfl⟩
 have s0 : r14nx_l0_step (m,(i,k)) 0 = if (t.1.1 ≠ t.2.1.1 ∧ r14has (u,(t.1.1,t.2.1.1)) = true) then .inr (.inl ()) else .inl 1 := by
  unfold r14nx_l0_step
  rw [if_pos (by decide),show w64 ((0:Int) + 1) = 1 from by decide,show Int.tmod 1 3 = 1 from by decide,ht,hu]
  exact nxIf (Trg m i).1.1 (Trg m i).2.1.1 (r14has (Trg m k,((Trg m i).1.1,(Trg m i).2.1.1)))
 have s1 : r14nx_l0_step (m,(i,k)) 1 = if (t.2.1.1 ≠ t.2.2.1 ∧ r14has (u,(t.2.1.1,t.2.2.1)) = true) then .inr (.inl ()) else .inl 2 := by
  unfold r14nx_l0_step
  rw [if_pos (by decide),show w64 ((1:Int) + 1) = 2 from by decide,show Int.tmod 2 3 = 2 from by decide,ht,hu]
  exact nxIf (Trg m i).2.1.1 (Trg m i).2.2.1 (r14has (Trg m k,((Trg m i).2.1.1,(Trg m i).2.2.1)))
 have s2 : r14nx_l0_step (m,(i,k)) 2 = if (t.2.2.1 ≠ t.1.1 ∧ r14has (u,(t.2.2.1,t.1.1)) = true) then .inr (.inl ()) else .inl 3 := by
  unfold r14nx_l0_step
  rw [if_pos (by decide),show w64 ((2:Int) + 1) = 3 from by decide,show Int.tmod 3 3 = 0 from by decide,ht,hu]
  exact nxIf (Trg m i).2.2.1 (Trg m i).1.1 (r14has (Trg m k,((Trg m i).2.2.1,(Trg m i).1.1)))
 have s3 : r14nx_l0_step (m,(i,k)) 3 = .inr (.inr ()) := by
  unfold r14nx_l0_step
  rw [if_neg (by decide)]
 have hP : (∃ p ∈ Prs t,p ∈ Prs u) ↔ ((t.1.1 ≠ t.2.1.1 ∧ r14has (u,(t.1.1,t.2.1.1)) = true) ∨ (t.2.1.1 ≠ t.2.2.1 ∧ r14has (u,(t.2.1.1,t.2.2.1)) = true) ∨ (t.2.2.1 ≠ t.1.1 ∧ r14has (u,(t.2.2.1,t.1.1)) = true)) := by
  rw [nx_iff,nx_iff,nx_iff]
  rw [show Prs t = Pr t.1.1 t.2.1.1 ++ Pr t.2.1.1 t.2.2.1 ++ Pr t.2.2.1 t.1.1 from rfl]
  constructor
  ·rintro ⟨p,h,h'⟩
   rw [List.mem_append,List.mem_append] at h
   rcases h with (h | h) | h
   ·exact .inl ⟨p,h,h'⟩
   ·exact .inr (.inl ⟨p,h,h'⟩)
   ·exact .inr (.inr ⟨p,h,h'⟩)
  ·rintro (⟨p,h,h'⟩ | ⟨p,h,h'⟩ | ⟨p,h,h'⟩)
   ·exact ⟨p,by rw [List.mem_append,List.mem_append]; exact .inl (.inl h),h'⟩
   ·exact ⟨p,by rw [List.mem_append,List.mem_append]; exact .inl (.inr h),h'⟩
   ·exact ⟨p,by rw [List.mem_append,List.mem_append]; exact .inr h,h'⟩
 have key : TR (r14nx_l0_step (m,(i,k))) (r14nx_l0_pre (m,(i,k))) 0 (fun r => Sum.elim (fun _ => true) (fun _ => false) r = true ↔ ∃ p ∈ Prs t,p ∈ Prs u) := by
  rw [hP]
  by_cases h0 : (t.1.1 ≠ t.2.1.1 ∧ r14has (u,(t.1.1,t.2.1.1)) = true)
  ·exact TR.stop (p 0 (.inl rfl)) (by rw [s0,if_pos h0]) ⟨fun _ => .inl h0,fun _ => rfl⟩
  ·refine TR.go (p 0 (.inl rfl)) (by rw [s0,if_neg h0]) ?_
   by_cases h1 : (t.2.1.1 ≠ t.2.2.1 ∧ r14has (u,(t.2.1.1,t.2.2.1)) = true)
   ·exact TR.stop (p 1 (.inr (.inl rfl))) (by rw [s1,if_pos h1]) ⟨fun _ => .inr (.inl h1),fun _ => rfl⟩
   ·refine TR.go (p 1 (.inr (.inl rfl))) (by rw [s1,if_neg h1]) ?_
    by_cases h2 : (t.2.2.1 ≠ t.1.1 ∧ r14has (u,(t.2.2.1,t.1.1)) = true)
    ·exact TR.stop (p 2 (.inr (.inr (.inl rfl)))) (by rw [s2,if_pos h2]) ⟨fun _ => .inr (.inr h2),fun _ => rfl⟩
    ·refine TR.go (p 2 (.inr (.inr (.inl rfl)))) (by rw [s2,if_neg h2]) ?_
     refine TR.stop (p 3 (.inr (.inr (.inr rfl)))) s3 ⟨fun h => (by cases h),fun h => ?_⟩
     rcases h with h | h | h
     ·exact absurd h h0
     ·exact absurd h h1
     ·exact absurd h h2
 unfold r14nx_pre r14nx
 dsimp only [letV]
 refine ⟨fun _ => ⟨hi,by omega,by omega,key.1⟩,?_⟩
 by_cases hik : i = k
 ·rw [if_pos (by simpa using hik)]
  exact ⟨fun h => (by cases h),fun h => absurd hik.symm h.1⟩
 ·rw [if_neg (by simpa using hik)]
  refine key.2.trans ?_
  unfold Adj
  rw [← ht,← hu]
  exact ⟨fun h => ⟨fun e => hik e.symm,hk,h⟩,fun h => h.2.2⟩
theorem r14next_law {m : Msh} (hm : meshB m = true) {i : Int} (hi : Has m i) : r14next_pre (m,i) ∧ (∀ k,k ∈ (r14next (m,i)).1 ↔ Adj m i k) ∧ (r14next (m,i)).1.length ≤ 500 := by
 have hn := (mesh_len hm).2.2.2
 obtain ⟨t1,t2⟩ := r8is_law m
 have key : TR (r14next_l0_step (m,i)) (r14next_l0_pre (m,i)) ([],0) (fun r => r.length ≤ 500 ∧ ∀ k,k ∈ r ↔ Adj m i k) := by
  refine for_loop m.2.2.2.length (fun j s => ∃ o,s = (o,(j:Int)) ∧ o.length ≤ j ∧ ∀ k,k ∈ o ↔ Adj m i k ∧ k < j) _ (fun j s hj ⟨o,e,h1,h2⟩ => ?_) (fun s ⟨o,e,h1,h2⟩ => ?_) ⟨[],rfl,Nat.le_refl _,fun k => by
   constructor
   ·intro h; cases h
   ·rintro ⟨h,h'⟩
    have := h.2.1.1
    omega⟩
  ·subst e
   obtain ⟨n1,n2⟩ := r14nx_law hi (k := (j:Int)) ⟨by omega,by omega⟩
   constructor
   ·unfold r14next_l0_pre
    dsimp only [letP]
    intro _
    exact ⟨n1,fun _ => by omega⟩
   ·refine .inl ?_
    unfold r14next_l0_step
    dsimp only [letV]
    rw [if_pos (by omega),cnt (n := 500) (by omega) (by omega)]
    by_cases h : r14nx (m,(i,(j:Int))) = true
    ·rw [if_pos h]
     refine ⟨_,rfl,_,rfl,by rw [List.length_append,List.length_singleton]; omega,fun k => ?_⟩
     rw [List.mem_append,List.mem_singleton,h2 k]
     constructor
     ·rintro (q | rfl)
      ·exact ⟨q.1,by omega⟩
      ·exact ⟨n2.1 h,by omega⟩
     ·rintro ⟨q,q'⟩
      by_cases hkj : k = j
      ·exact .inr hkj
      ·exact .inl ⟨q,by omega⟩
    ·rw [if_neg h]
     refine ⟨_,rfl,o,rfl,by omega,fun k => ?_⟩
     rw [h2 k]
     constructor
     ·exact fun q => ⟨q.1,by omega⟩
     ·rintro ⟨q,q'⟩
      by_cases hkj : k = j
      ·rw [hkj] at q
       exact absurd (n2.2 q) h
      ·exact ⟨q,by omega⟩
  ·subst e
   constructor
   ·unfold r14next_l0_pre
    dsimp only
    intro h; omega
   ·unfold r14next_l0_step
    dsimp only
    rw [if_neg (by omega)]
    refine ⟨_,rfl,by omega,fun k => (h2 k).trans ⟨fun q => q.1,fun q => ⟨q,q.2.1.2⟩⟩⟩
 unfold r14next_pre r14next
 dsimp only [letP,letV]
 rw [t2,hm,if_neg (by decide),if_neg (by have := hi.1; omega),if_neg (by have := hi.2; omega)]
 exact ⟨⟨t1,fun _ _ _ => key.1⟩,key.2.2,key.2.1⟩
theorem r15facing_way {m : Msh} (hV : m.1.length < 4611686018427387904) (hm : tameB m = true) (i:Int) : r15facing_pre (m,i) ∧ r15facing (m,i) = ((Way m i).1.1,((Way m i).1.2,(Way m i).2)) := by
 obtain ⟨f1,f2⟩ := r15facing_law m i hV
 refine ⟨f1,?_⟩
 rw [f2,(facing_law m i).2]
 unfold Way
 by_cases h : Has m i
 ·rw [if_pos ⟨hm,h⟩]
  by_cases hz : Nm m i = (0,(0,0))
  ·rw [if_pos hz,if_neg (fun q => q.2 hz)]
  ·rw [if_neg hz,if_pos ⟨h,hz⟩]
 ·rw [if_neg (fun q => h q.2),if_neg (fun q => h q.1)]
theorem r15faces_law {m : Msh} (hV : m.1.length < 4611686018427387904) (hm : tameB m = true) (c : Chr) (i:Int) : r15faces_pre (m,(c,i)) ∧ (r15faces (m,(c,i)) = true ↔ Way m i = (cw c,true)) := by
 obtain ⟨f1,f2⟩ := r15facing_way hV hm i
 refine ⟨f1,?_⟩
 unfold r15faces
 dsimp only [letV]
 rw [f2]
 dsimp only
 obtain ⟨⟨w1,w2⟩,b⟩ := Way m i
 dsimp only
 cases b with
 | false =>
  rw [if_neg (by decide)]
  exact ⟨fun h => (by cases h),fun h => (by simp at h)⟩
 | true =>
  rw [if_pos rfl]
  by_cases h1 : w1 = c.1
  ·rw [if_pos (by simpa using h1),beq_iff_eq]
   simp only [Prod.mk.injEq,and_true]
   exact ⟨fun h => ⟨h1,h⟩,fun h => h.2⟩
  ·rw [if_neg (by simpa using h1)]
   simp only [Prod.mk.injEq,and_true]
   exact ⟨fun h => (by cases h),fun h => absurd h.1 h1⟩
theorem r15faces_no {m : Msh} (hV : m.1.length < 4611686018427387904) (hm : tameB m = false) (c : Chr) (i:Int) : r15faces_pre (m,(c,i)) ∧ r15faces (m,(c,i)) = false := by
 obtain ⟨f1,f2⟩ := r15facing_law m i hV
 refine ⟨f1,?_⟩
 unfold r15faces
 dsimp only [letV]
 have hno : ¬ (tameB m = true ∧ Has m i) := fun q => by rw [hm] at q; exact absurd q.1 (by decide)
 rw [f2,(facing_law m i).2,if_neg hno]
 rfl
theorem r15in_law {l : List Int} (hl : l.length ≤ 1000000) (k:Int) : r15in_pre (l,k) ∧ r15in (l,k) = decide (k ∈ l) := by
 have key : TR (r15in_l0_step (l,k)) (r15in_l0_pre (l,k)) 0 (fun r => Sum.elim (fun _ => true) (fun _ => false) r = decide (k ∈ l)) := by
  refine for_loop l.length (fun i s => s = (i:Int) ∧ k ∉ l.take i) _ (fun i s hi ⟨e,h1⟩ => ?_) (fun s ⟨e,h1⟩ => ?_) ⟨rfl,by simp⟩
  ·subst e
   constructor
   ·unfold r15in_l0_pre
    dsimp only
    intro _
    rw [Int.toNat_natCast]
    exact ⟨⟨by omega,by omega⟩,hi,hi⟩
   ·unfold r15in_l0_step
    dsimp only
    rw [if_pos (by omega),Int.toNat_natCast,cnt (n := 1000000) (by omega) (by omega)]
    by_cases hg : l.getD i 0 = k
    ·rw [if_pos (by simpa using hg)]
     refine .inr ⟨_,rfl,?_⟩
     symm
     exact decide_eq_true (by rw [← hg]; exact getD_in hi 0)
    ·rw [if_neg (by simpa using hg)]
     exact .inl ⟨_,rfl,rfl,by
      rw [take_snoc hi 0,List.mem_append,List.mem_singleton]
      rintro (h | h)
      ·exact h1 h
      ·exact hg h.symm⟩
  ·subst e
   constructor
   ·unfold r15in_l0_pre
    dsimp only
    intro h; omega
   ·unfold r15in_l0_step
    dsimp only
    rw [if_neg (by omega)]
    refine ⟨_,rfl,?_⟩
    rw [List.take_length] at h1
    symm
    exact decide_eq_false h1
 exact ⟨key.1,key.2⟩
theorem r15fits_loop {m : Msh} (hV : m.1.length < 4611686018427387904) (hm : tameB m = true) (c : Chr) (hc : c.2.2.length ≤ 1000) (i:Int) (hi : Has m i) (hax : 0 ≤ c.1 ∧ c.1 < 3) (S : T2) (hS : S = Shd m i c.1) (near : List Int) (hnear : ∀ k,k ∈ near ↔ Adj m i k) (hnl : near.length ≤ 500) :
  TR (r15fits_l0_step (m,(c,i))) (r15fits_l0_pre (m,(c,i))) (S.1.1,(S.1.2,(S.2.1.1,(S.2.1.2,(S.2.2.1,(S.2.2.2,(near,((((c.2.2.length:Nat):Int) == 0),0)))))))) (fun r => Sum.elim (fun _ => false) (fun b => b) r = true ↔ ((∀ k ∈ c.2.2,Way m k = (cw c,true)) ∧ (∀ k ∈ c.2.2,¬ Over m c.1 i k) ∧ (c.2.2 = [] ∨ ∃ k ∈ c.2.2,Adj m i k))) := by
 refine for_loop c.2.2.length (fun j s => ∃ b : Bool,s = (S.1.1,(S.1.2,(S.2.1.1,(S.2.1.2,(S.2.2.1,(S.2.2.2,(near,(b,(j:Int))))))))) ∧ (∀ k ∈ c.2.2.take j,Way m k = (cw c,true) ∧ ¬ Over m c.1 i k) ∧ (b = true ↔ (c.2.2 = [] ∨ ∃ k ∈ c.2.2.take j,Adj m i k))) _ (fun j s hj ⟨b,e,h1,h2⟩ => ?_) (fun s ⟨b,e,h1,h2⟩ => ?_) ⟨_,rfl,by simp,by simp⟩
 ·subst e
  obtain ⟨k,hk⟩ : ∃ k,k = c.2.2.getD j 0 := ⟨_,rfl⟩
  have hkm : k ∈ c.2.2 := by rw [hk]; exact getD_in hj 0
  obtain ⟨f1,f2⟩ := r15faces_law hV hm c k
  obtain ⟨g1,g2⟩ := r15shadow_law m k c.1 hV
  obtain ⟨n1,n2⟩ := r15in_law (l := near) (by omega) k
  constructor
  ·unfold r15fits_l0_pre
   dsimp only [letP]
   intro _
   rw [Int.toNat_natCast,← hk]
   exact ⟨⟨by omega,by omega⟩,hj,hj,f1,fun _ => ⟨⟨by omega,by omega⟩,hj,hj,g1,(r10overlap_law _ _).1,fun _ _ => ⟨⟨by omega,by omega⟩,hj,hj,n1⟩⟩⟩
  ·unfold r15fits_l0_step
   dsimp only [letV]
   rw [Int.toNat_natCast,← hk,if_pos (by omega),cnt (n := 1000) (by omega) (by omega)]
   by_cases hf : Way m k = (cw c,true)
   ·have hsh : r15shadow (m,(k,c.1)) = (Shd m k c.1,0) := by rw [g2,(shadow_law m k c.1).2,if_pos ⟨hm,(way_has hf).1,hax⟩]
    rw [f2.2 hf,if_neg (by decide),hsh]
    dsimp only
    have ho : (r10overlap (((S.1.1,S.1.2),((S.2.1.1,S.2.1.2),(S.2.2.1,S.2.2.2))),Shd m k c.1)).1 = (moverlap (Shd m i c.1,Shd m k c.1)).1 := by
     rw [(r10overlap_law _ _).2,hS]
    rw [ho]
    by_cases hov0 : (moverlap (Shd m i c.1,Shd m k c.1)).1 = true
    ·have hov : Over m c.1 i k := hov0
     rw [if_pos hov0]
     exact .inr ⟨_,rfl,⟨fun h => (by cases h),fun h => absurd hov (h.2.1 k hkm)⟩⟩
    ·have hov : ¬ Over m c.1 i k := hov0
     rw [if_neg hov0]
     have hnx : ∀ q ∈ c.2.2.take (j + 1),Way m q = (cw c,true) ∧ ¬ Over m c.1 i q := fun q hq => by
      rw [take_snoc hj 0,← hk,List.mem_append,List.mem_singleton] at hq
      rcases hq with hq | rfl
      ·exact h1 q hq
      ·exact ⟨hf,hov⟩
     have hex : (∃ q ∈ c.2.2.take (j + 1),Adj m i q) ↔ (∃ q ∈ c.2.2.take j,Adj m i q) ∨ Adj m i k := by
      rw [take_snoc hj 0,← hk]
      constructor
      ·rintro ⟨q,hq,hA⟩
       rw [List.mem_append,List.mem_singleton] at hq
       rcases hq with hq | rfl
       ·exact .inl ⟨q,hq,hA⟩
       ·exact .inr hA
      ·rintro (⟨q,hq,hA⟩ | hA)
       ·exact ⟨q,List.mem_append_left _ hq,hA⟩
       ·exact ⟨k,by simp,hA⟩
     cases b with
     | true =>
      rw [if_pos rfl]
      refine .inl ⟨_,rfl,true,rfl,hnx,⟨fun _ => ?_,fun _ => rfl⟩⟩
      rw [hex]
      rcases h2.1 rfl with q | q
      ·exact .inl q
      ·exact .inr (.inl q)
     | false =>
      rw [if_neg (by decide)]
      refine .inl ⟨_,rfl,_,rfl,hnx,?_⟩
      have hno : ¬ (c.2.2 = [] ∨ ∃ k ∈ c.2.2.take j,Adj m i k) := fun q => by cases h2.2 q
      rw [n2,decide_eq_true_iff,hnear k,hex]
      constructor
      ·exact fun q => .inr (.inr q)
      ·rintro (q | q | q)
       ·exact absurd (.inl q) hno
       ·exact absurd (.inr q) hno
       ·exact q
   ·have hf' : r15faces (m,(c,k)) = false := by
     cases h : r15faces (m,(c,k)) with
     | false => rfl
     | true => exact absurd (f2.1 h) hf
    rw [hf',if_pos (by decide)]
    exact .inr ⟨_,rfl,⟨fun h => (by cases h),fun h => absurd (h.1 k hkm) hf⟩⟩
 ·subst e
  constructor
  ·unfold r15fits_l0_pre
   dsimp only
   intro h; omega
  ·unfold r15fits_l0_step
   dsimp only
   rw [if_neg (by omega)]
   rw [List.take_length] at h1 h2
   refine ⟨_,rfl,?_⟩
   show b = true ↔ _
   rw [h2]
   exact ⟨fun q => ⟨fun k hk => (h1 k hk).1,fun k hk => (h1 k hk).2,q⟩,fun q => q.2.2⟩
theorem r15fits_law {m : Msh} (hV : m.1.length < 4611686018427387904) (c : Chr) (hc : c.2.2.length ≤ 1000) (i:Int) : r15fits_pre (m,(c,i)) ∧ (r15fits (m,(c,i)) = true ↔ tameB m = true ∧ RF m c i) := by
 cases hm : tameB m with
 | false =>
  obtain ⟨f1,f2⟩ := r15faces_no hV hm c i
  unfold r15fits_pre r15fits
  dsimp only [letP,letV]
  rw [f2,if_pos (by decide)]
  exact ⟨⟨f1,fun h => absurd rfl h⟩,⟨fun h => (by cases h),fun h => (by cases h.1)⟩⟩
 | true =>
  obtain ⟨f1,f2⟩ := r15faces_law hV hm c i
  obtain ⟨n1,n2⟩ := r15in_law (l := c.2.2) (by omega) i
  unfold r15fits_pre r15fits
  dsimp only [letP,letV]
  by_cases hf : Way m i = (cw c,true)
  ·have hi := (way_has hf).1
   have hax := way_ax hf
   obtain ⟨g1,g2⟩ := r15shadow_law m i c.1 hV
   obtain ⟨x1,x2,x3⟩ := r14next_law (tame_mesh hm) hi
   have hS : r15shadow (m,(i,c.1)) = (Shd m i c.1,0) := by rw [g2,(shadow_law m i c.1).2,if_pos ⟨hm,hi,hax⟩]
   have hL := r15fits_loop hV hm c hc i hi hax (r15shadow (m,(i,c.1))).1 (by rw [hS]) (r14next (m,i)).1 x2 x3
   refine ⟨⟨f1,fun _ => ⟨n1,fun _ => ⟨g1,x1,hL.1⟩⟩⟩,?_⟩
   rw [f2.2 hf,if_neg (by decide),n2]
   by_cases hn : i ∈ c.2.2
   ·rw [if_pos (decide_eq_true hn)]
    exact ⟨fun h => (by cases h),fun h => absurd hn h.2.2.new⟩
   ·rw [if_neg (by simpa using hn)]
    exact hL.2.trans ⟨fun h => ⟨rfl,h.1,hf,hn,h.2.1,h.2.2⟩,fun h => ⟨h.2.1,h.2.2.apart,h.2.2.near⟩⟩
  ·have hf' : r15faces (m,(c,i)) = false := by
    cases h : r15faces (m,(c,i)) with
    | false => rfl
    | true => exact absurd (f2.1 h) hf
   rw [hf',if_pos (by decide)]
   exact ⟨⟨f1,fun h => absurd rfl h⟩,⟨fun h => (by cases h),fun h => absurd h.2.2.way hf⟩⟩
end Go.Proofs.YtkbmjhabfjgoiaaGreat
