/- Plain laws: boxes of points. -/
import Derived.Test.YtaipcbdilkcdbaaTq
import Derived.Test.YtaipcbdilkcdbaaTp
import Derived.Test.YtaipcbdilkcdbaaTd
noncomputable section
set_option linter.unusedSectionVars false
set_option linter.unusedVariables false
set_option linter.unusedSimpArgs false
namespace Go.Proofs.Ytaipcbdilkcdbaa
open Go Go.Ev Go.Proofs
abbrev P3 : Type := Int × (Int × Int)
abbrev T3 : Type := P3 × (P3 × P3)
abbrev z3 : P3 := (0,(0,0))
abbrev zT : T3 := (z3,(z3,z3))
abbrev B3 : Type := P3 × P3
theorem within_law (m:Int) (hm : 0 ≤ m) (hm2 : m < 4611686018427387904) (x : List Int) (hl : x.length < 4611686018427387904) : within_pre (m,x) ∧ within (m,x) = !x.any (fun v => decide (v < -m) || decide (v > m)) := by
 refine all_loop x hl _ _ _ (fun i hi => ?_) (fun i v hv => ?_) ?_
 ·unfold within_l0_pre
  intro h
  simp only [Int.toNat_natCast]; dsimp only at h ⊢; omega
 ·have hlt := lt_of_get hv
  unfold within_l0_step
  rw [if_pos (by dsimp only; omega),Int.toNat_natCast]
  dsimp only
  rw [getD_of hv,w64_id (n := 0 - m) (by omega) (by omega),show 0 - m = -m by omega]
  by_cases h1 : v < -m
  ·simp [h1]
  ·by_cases h2 : v > m
   ·simp [h1,h2]
   ·simp [h1,h2]
 ·unfold within_l0_step
  rw [if_neg (by dsimp only; omega)]
abbrev Sm3 (p : Int × (Int × Int)) : Prop := (-16384 ≤ p.1 ∧ p.1 ≤ 16384) ∧ (-16384 ≤ p.2.1 ∧ p.2.1 ≤ 16384) ∧ (-16384 ≤ p.2.2 ∧ p.2.2 ≤ 16384)
theorem notAny {α : Type} {l : List α} {bad : α → Bool} {P : α → Prop} [DecidablePred P] (h : ∀ x,bad x = !decide (P x)) : (!l.any bad) = decide (∀ x ∈ l,P x) := by
 rw [Bool.eq_iff_iff]
 simp [h]
theorem small3_law (x : List (Int × (Int × Int))) (hl : x.length < 4611686018427387904) : small3_pre x ∧ small3 x = decide (∀ p ∈ x,Sm3 p) := by
 have hn : ∀ a b c : Int,within (16384,[a,b,c]) = decide (Sm3 (a,(b,c))) := fun a b c => by
  rw [(within_law 16384 (by omega) (by omega) [a,b,c] (by simp)).2,Bool.eq_iff_iff]; simp
 rw [← notAny (bad := fun p => !decide (Sm3 p)) (fun _ => rfl)]
 refine all_loop x hl _ _ _ (fun i hi => ?_) (fun i v hv => ?_) ?_
 ·unfold small3_l0_pre
  intro h
  simp only [Int.toNat_natCast]
  exact ⟨by omega,by omega,by omega,(within_law 16384 (by omega) (by omega) _ (by simp)).1⟩
 ·have hlt := lt_of_get hv
  unfold small3_l0_step
  rw [if_pos (by omega),Int.toNat_natCast,getD_of hv]
  unfold letV
  rw [hn]
 ·unfold small3_l0_step
  rw [if_neg (by omega)]
theorem for_loop {S R : Type} [Inhabited R] {step : S → S ⊕ R} {pre : S → Prop} (n:Nat) (J : Nat → S → Prop) (Post : R → Prop)
  (h1 : ∀ i s,i < n → J i s → pre s ∧ ((∃ s',step s = .inl s' ∧ J (i + 1) s') ∨ (∃ r,step s = .inr r ∧ Post r)))
  (h2 : ∀ s,J n s → pre s ∧ ∃ r,step s = .inr r ∧ Post r) {s : S} (h0 : J 0 s) : TR step pre s Post := by
 have key : ∀ k i,i + k = n → ∀ s,J i s → TR step pre s Post := by
  intro k
  induction k with
  | zero =>
   intro i e s hj
   have : i = n := by omega
   subst this
   obtain ⟨hp,r,e1,hq⟩ := h2 s hj
   exact TR.stop hp e1 hq
  | succ k ih =>
   intro i e s hj
   obtain ⟨hp,⟨s',e1,hj'⟩ | ⟨r,e1,hq⟩⟩ := h1 i s (by omega) hj
   ·exact TR.go hp e1 (ih (i + 1) (by omega) s' hj')
   ·exact TR.stop hp e1 hq
 exact key n 0 (by omega) s h0
theorem take_snoc {α : Type} {l : List α} {i : Nat} (h : i < l.length) (d : α) : l.take (i + 1) = l.take i ++ [l.getD i d] := by
 rw [List.take_add_one,List.getD_eq_getElem?_getD,List.getElem?_eq_getElem h]; rfl
theorem getD_in {α : Type} {l : List α} {i : Nat} (h : i < l.length) (d : α) : l.getD i d ∈ l := by
 rw [List.getD_eq_getElem?_getD,List.getElem?_eq_getElem h]; exact List.getElem_mem h
theorem cntI {i n : Nat} (h : i < n) (hn : n < 4611686018427387904) : w64 ((i:Int) + 1) = ((i + 1:Nat):Int) := cnt h hn
theorem minI_le (a b:Int) : minI a b ≤ a ∧ minI a b ≤ b ∧ (minI a b = a ∨ minI a b = b) := by unfold minI; split <;> omega
theorem maxI_le (a b:Int) : a ≤ maxI a b ∧ b ≤ maxI a b ∧ (maxI a b = a ∨ maxI a b = b) := by unfold maxI; split <;> omega
def Le3 (p q : P3) : Prop := p.1 ≤ q.1 ∧ p.2.1 ≤ q.2.1 ∧ p.2.2 ≤ q.2.2
structure IsB (x : List P3) (b : B3) : Prop where
 low : ∀ p ∈ x,Le3 b.1 p
 high : ∀ p ∈ x,Le3 p b.2
 l1 : ∃ p ∈ x,p.1 = b.1.1
 l2 : ∃ p ∈ x,p.2.1 = b.1.2.1
 l3 : ∃ p ∈ x,p.2.2 = b.1.2.2
 h1 : ∃ p ∈ x,p.1 = b.2.1
 h2 : ∃ p ∈ x,p.2.1 = b.2.2.1
 h3 : ∃ p ∈ x,p.2.2 = b.2.2.2
theorem IsB.uniq {x : List P3} {b b' : B3} (h : IsB x b) (h' : IsB x b') : b = b' := by
 obtain ⟨⟨a1,a2,a3⟩,c1,c2,c3⟩ := b
 obtain ⟨⟨a1',a2',a3'⟩,c1',c2',c3'⟩ := b'
 obtain ⟨p1,m1,e1⟩ := h.l1
 obtain ⟨p2,m2,e2⟩ := h.l2
 obtain ⟨p3,m3,e3⟩ := h.l3
 obtain ⟨p4,m4,e4⟩ := h.h1
 obtain ⟨p5,m5,e5⟩ := h.h2
 obtain ⟨p6,m6,e6⟩ := h.h3
 obtain ⟨q1,n1,f1⟩ := h'.l1
 obtain ⟨q2,n2,f2⟩ := h'.l2
 obtain ⟨q3,n3,f3⟩ := h'.l3
 obtain ⟨q4,n4,f4⟩ := h'.h1
 obtain ⟨q5,n5,f5⟩ := h'.h2
 obtain ⟨q6,n6,f6⟩ := h'.h3
 have g1 := (h'.low p1 m1).1
 have g2 := (h'.low p2 m2).2.1
 have g3 := (h'.low p3 m3).2.2
 have g4 := (h'.high p4 m4).1
 have g5 := (h'.high p5 m5).2.1
 have g6 := (h'.high p6 m6).2.2
 have k1 := (h.low q1 n1).1
 have k2 := (h.low q2 n2).2.1
 have k3 := (h.low q3 n3).2.2
 have k4 := (h.high q4 n4).1
 have k5 := (h.high q5 n5).2.1
 have k6 := (h.high q6 n6).2.2
 dsimp only at *
 refine Prod.ext (Prod.ext ?_ (Prod.ext ?_ ?_)) (Prod.ext ?_ (Prod.ext ?_ ?_)) <;> dsimp only <;> omega
theorem IsB.mem {x y : List P3} {b : B3} (h : IsB x b) (hm : ∀ p,p ∈ x ↔ p ∈ y) : IsB y b := by
 have ex : ∀ {Q : P3 → Prop},(∃ p ∈ x,Q p) → ∃ p ∈ y,Q p := fun ⟨p,h1,h2⟩ => ⟨p,(hm p).1 h1,h2⟩
 exact ⟨fun p hp => h.low p ((hm p).2 hp),fun p hp => h.high p ((hm p).2 hp),ex h.l1,ex h.l2,ex h.l3,ex h.h1,ex h.h2,ex h.h3⟩
theorem IsB.join {x y : List P3} {a b c : B3} (ha : IsB x a) (hb : IsB y b) (hc : IsB [a.1,a.2,b.1,b.2] c) : IsB (x ++ y) c := by
 have la := hc.low a.1 (by simp)
 have lb := hc.low b.1 (by simp)
 have ua := hc.high a.2 (by simp)
 have ub := hc.high b.2 (by simp)
 have wa : Le3 a.1 a.2 := by
  obtain ⟨p,hp,_⟩ := ha.l1
  have h1 := ha.low p hp
  have h2 := ha.high p hp
  exact ⟨Int.le_trans h1.1 h2.1,Int.le_trans h1.2.1 h2.2.1,Int.le_trans h1.2.2 h2.2.2⟩
 have wb : Le3 b.1 b.2 := by
  obtain ⟨p,hp,_⟩ := hb.l1
  have h1 := hb.low p hp
  have h2 := hb.high p hp
  exact ⟨Int.le_trans h1.1 h2.1,Int.le_trans h1.2.1 h2.2.1,Int.le_trans h1.2.2 h2.2.2⟩
 obtain ⟨la1,la2,la3⟩ := la
 obtain ⟨lb1,lb2,lb3⟩ := lb
 obtain ⟨ua1,ua2,ua3⟩ := ua
 obtain ⟨ub1,ub2,ub3⟩ := ub
 obtain ⟨wa1,wa2,wa3⟩ := wa
 obtain ⟨wb1,wb2,wb3⟩ := wb
 refine ⟨fun p hp => ?_,fun p hp => ?_,?_,?_,?_,?_,?_,?_⟩
 ·rcases List.mem_append.1 hp with hp | hp
  ·obtain ⟨h1,h2,h3⟩ := ha.low p hp; exact ⟨by omega,by omega,by omega⟩
  ·obtain ⟨h1,h2,h3⟩ := hb.low p hp; exact ⟨by omega,by omega,by omega⟩
 ·rcases List.mem_append.1 hp with hp | hp
  ·obtain ⟨h1,h2,h3⟩ := ha.high p hp; exact ⟨by omega,by omega,by omega⟩
  ·obtain ⟨h1,h2,h3⟩ := hb.high p hp; exact ⟨by omega,by omega,by omega⟩
 ·obtain ⟨p,hp,e⟩ := hc.l1
  obtain ⟨q,hq,f⟩ := ha.l1
  obtain ⟨q',hq',f'⟩ := hb.l1
  simp only [List.mem_cons,List.not_mem_nil,or_false] at hp
  rcases hp with rfl | rfl | rfl | rfl
  ·exact ⟨q,by simp [hq],by omega⟩
  ·exact ⟨q,by simp [hq],by omega⟩
  ·exact ⟨q',by simp [hq'],by omega⟩
  ·exact ⟨q',by simp [hq'],by omega⟩
 ·obtain ⟨p,hp,e⟩ := hc.l2
  obtain ⟨q,hq,f⟩ := ha.l2
  obtain ⟨q',hq',f'⟩ := hb.l2
  simp only [List.mem_cons,List.not_mem_nil,or_false] at hp
  rcases hp with rfl | rfl | rfl | rfl
  ·exact ⟨q,by simp [hq],by omega⟩
  ·exact ⟨q,by simp [hq],by omega⟩
  ·exact ⟨q',by simp [hq'],by omega⟩
  ·exact ⟨q',by simp [hq'],by omega⟩
 ·obtain ⟨p,hp,e⟩ := hc.l3
  obtain ⟨q,hq,f⟩ := ha.l3
  obtain ⟨q',hq',f'⟩ := hb.l3
  simp only [List.mem_cons,List.not_mem_nil,or_false] at hp
  rcases hp with rfl | rfl | rfl | rfl
  ·exact ⟨q,by simp [hq],by omega⟩
  ·exact ⟨q,by simp [hq],by omega⟩
  ·exact ⟨q',by simp [hq'],by omega⟩
  ·exact ⟨q',by simp [hq'],by omega⟩
 ·obtain ⟨p,hp,e⟩ := hc.h1
  obtain ⟨q,hq,f⟩ := ha.h1
  obtain ⟨q',hq',f'⟩ := hb.h1
  simp only [List.mem_cons,List.not_mem_nil,or_false] at hp
  rcases hp with rfl | rfl | rfl | rfl
  ·exact ⟨q,by simp [hq],by omega⟩
  ·exact ⟨q,by simp [hq],by omega⟩
  ·exact ⟨q',by simp [hq'],by omega⟩
  ·exact ⟨q',by simp [hq'],by omega⟩
 ·obtain ⟨p,hp,e⟩ := hc.h2
  obtain ⟨q,hq,f⟩ := ha.h2
  obtain ⟨q',hq',f'⟩ := hb.h2
  simp only [List.mem_cons,List.not_mem_nil,or_false] at hp
  rcases hp with rfl | rfl | rfl | rfl
  ·exact ⟨q,by simp [hq],by omega⟩
  ·exact ⟨q,by simp [hq],by omega⟩
  ·exact ⟨q',by simp [hq'],by omega⟩
  ·exact ⟨q',by simp [hq'],by omega⟩
 ·obtain ⟨p,hp,e⟩ := hc.h3
  obtain ⟨q,hq,f⟩ := ha.h3
  obtain ⟨q',hq',f'⟩ := hb.h3
  simp only [List.mem_cons,List.not_mem_nil,or_false] at hp
  rcases hp with rfl | rfl | rfl | rfl
  ·exact ⟨q,by simp [hq],by omega⟩
  ·exact ⟨q,by simp [hq],by omega⟩
  ·exact ⟨q',by simp [hq'],by omega⟩
  ·exact ⟨q',by simp [hq'],by omega⟩
theorem of_inner (x : List P3) (a b c d e f g h i:Int) (j:Int) :
  TR (slabOf_l3_step x) (slabOf_l3_pre x) (a,(b,(c,(d,(e,(f,(g,(h,(i,(j,0)))))))))) fun r => r = (minI a g,(minI b h,(minI c i,(maxI d g,(maxI e h,(maxI f i,j)))))) := by
 refine TR.go (s' := (minI a g,(b,(c,(maxI d g,(e,(f,(g,(h,(i,(j,1)))))))))) ) ?_ ?_ (TR.go (s' := (minI a g,(minI b h,(c,(maxI d g,(maxI e h,(f,(g,(h,(i,(j,2)))))))))) ) ?_ ?_ (TR.go (s' := (minI a g,(minI b h,(minI c i,(maxI d g,(maxI e h,(maxI f i,(g,(h,(i,(j,3)))))))))) ) ?_ ?_ (TR.stop (r := (minI a g,(minI b h,(minI c i,(maxI d g,(maxI e h,(maxI f i,j))))))) ?_ ?_ rfl)))
 ·unfold slabOf_l3_pre; dsimp only; decide
 ·rfl
 ·unfold slabOf_l3_pre; dsimp only; decide
 ·rfl
 ·unfold slabOf_l3_pre; dsimp only; decide
 ·rfl
 ·unfold slabOf_l3_pre; dsimp only; decide
 ·rfl
theorem IsB.snoc {x : List P3} {a b c d e f : Int} (h : IsB x ((a,(b,c)),(d,(e,f)))) (p : P3) : IsB (x ++ [p]) ((minI a p.1,(minI b p.2.1,minI c p.2.2)),(maxI d p.1,(maxI e p.2.1,maxI f p.2.2))) := by
 have m1 := minI_le a p.1
 have m2 := minI_le b p.2.1
 have m3 := minI_le c p.2.2
 have m4 := maxI_le d p.1
 have m5 := maxI_le e p.2.1
 have m6 := maxI_le f p.2.2
 have ex : ∀ {Q : P3 → Int} {u v w : Int},(∃ q ∈ x,Q q = u) → Q p = v → (w = u ∨ w = v) → ∃ q ∈ x ++ [p],Q q = w := fun {Q u v w} ⟨q,h1,h2⟩ hv hw => by
  rcases hw with rfl | rfl
  ·exact ⟨q,by simp [h1],h2⟩
  ·exact ⟨p,by simp,hv⟩
 refine ⟨fun q hq => ?_,fun q hq => ?_,ex h.l1 rfl m1.2.2,ex (Q := fun q => q.2.1) h.l2 rfl m2.2.2,ex (Q := fun q => q.2.2) h.l3 rfl m3.2.2,ex h.h1 rfl m4.2.2,ex (Q := fun q => q.2.1) h.h2 rfl m5.2.2,ex (Q := fun q => q.2.2) h.h3 rfl m6.2.2⟩
 ·simp only [List.mem_append,List.mem_singleton] at hq
  rcases hq with hq | rfl
  ·obtain ⟨g1,g2,g3⟩ := h.low q hq
   dsimp only at g1 g2 g3
   exact ⟨by dsimp only; omega,by dsimp only; omega,by dsimp only; omega⟩
  ·exact ⟨by dsimp only; omega,by dsimp only; omega,by dsimp only; omega⟩
 ·simp only [List.mem_append,List.mem_singleton] at hq
  rcases hq with hq | rfl
  ·obtain ⟨g1,g2,g3⟩ := h.high q hq
   dsimp only at g1 g2 g3
   exact ⟨by dsimp only; omega,by dsimp only; omega,by dsimp only; omega⟩
  ·exact ⟨by dsimp only; omega,by dsimp only; omega,by dsimp only; omega⟩
theorem minI_self (a:Int) : minI a a = a := by unfold minI; split <;> rfl
theorem maxI_self (a:Int) : maxI a a = a := by unfold maxI; split <;> rfl
theorem IsB.one (p : P3) : IsB [p] (p,p) := by
 have : Le3 p p := ⟨Int.le_refl _,Int.le_refl _,Int.le_refl _⟩
 exact ⟨fun q hq => by simp only [List.mem_singleton] at hq; subst hq; exact this,fun q hq => by simp only [List.mem_singleton] at hq; subst hq; exact this,⟨p,by simp,rfl⟩,⟨p,by simp,rfl⟩,⟨p,by simp,rfl⟩,⟨p,by simp,rfl⟩,⟨p,by simp,rfl⟩,⟨p,by simp,rfl⟩⟩
theorem of_loop (x : List P3) (h0 : 0 < x.length) (hl : x.length < 4611686018427387904) :
  TR (slabOf_l1_step x) (slabOf_l1_pre x) ((x.getD 0 z3).1,((x.getD 0 z3).2.1,((x.getD 0 z3).2.2,((x.getD 0 z3).1,((x.getD 0 z3).2.1,((x.getD 0 z3).2.2,0)))))) fun r => IsB x ((r.1,(r.2.1,r.2.2.1)),r.2.2.2) := by
 refine for_loop x.length (fun i s => ∃ b : B3,s = (b.1.1,(b.1.2.1,(b.1.2.2,(b.2.1,(b.2.2.1,(b.2.2.2,(i:Int))))))) ∧ ((i = 0 ∧ b = (x.getD 0 z3,x.getD 0 z3)) ∨ (0 < i ∧ IsB (x.take i) b))) _ (fun i s hi hj => ?_) (fun s hj => ?_) ⟨(x.getD 0 z3,x.getD 0 z3),rfl,.inl ⟨rfl,rfl⟩⟩
 ·obtain ⟨b,rfl,hb⟩ := hj
  obtain ⟨⟨a1,a2,a3⟩,a4,a5,a6⟩ := b
  have key := of_inner x a1 a2 a3 a4 a5 a6 (x.getD i z3).1 (x.getD i z3).2.1 (x.getD i z3).2.2 (i:Int)
  refine ⟨?_,.inl ⟨_,?_,((minI a1 (x.getD i z3).1,(minI a2 (x.getD i z3).2.1,minI a3 (x.getD i z3).2.2)),(maxI a4 (x.getD i z3).1,(maxI a5 (x.getD i z3).2.1,maxI a6 (x.getD i z3).2.2))),rfl,.inr ⟨by omega,?_⟩⟩⟩
  ·unfold slabOf_l1_pre letP
   intro _
   dsimp only
   rw [Int.toNat_natCast]
   exact ⟨by omega,hi,hi,key.1⟩
  ·unfold slabOf_l1_step letV parts
   dsimp only
   rw [if_pos (by omega),Int.toNat_natCast,key.2,cntI hi hl]
  ·rw [take_snoc hi z3]
   rcases hb with ⟨rfl,e⟩ | ⟨_,hb⟩
   ·simp only [Prod.mk.injEq] at e
    obtain ⟨e1,e2⟩ := e
    simp only [List.take_zero,List.nil_append]
    generalize x.getD 0 z3 = p at *
    subst e1
    have e2 := e2.symm
    simp only [Prod.mk.injEq] at e2
    obtain ⟨rfl,rfl,rfl⟩ := e2
    dsimp only
    rw [minI_self,minI_self,minI_self,maxI_self,maxI_self,maxI_self]
    exact IsB.one _
   ·exact hb.snoc _
 ·obtain ⟨b,rfl,hb⟩ := hj
  refine ⟨?_,(b.1.1,(b.1.2.1,(b.1.2.2,(b.2.1,(b.2.2.1,b.2.2.2))))),?_,?_⟩
  ·unfold slabOf_l1_pre
   intro q
   dsimp only at q; omega
  ·unfold slabOf_l1_step
   dsimp only
   rw [if_neg (by omega)]
  ·rcases hb with ⟨h,_⟩ | ⟨_,hb⟩
   ·omega
   ·rw [List.take_length] at hb; exact hb
theorem slabOf_law (x : List P3) (hl : x.length < 4611686018427387904) : slabOf_pre x ∧ ((x = [] ∧ slabOf x = ((z3,z3),1)) ∨ (x ≠ [] ∧ (¬ ∀ p ∈ x,Sm3 p) ∧ slabOf x = ((z3,z3),5)) ∨ (x ≠ [] ∧ (∀ p ∈ x,Sm3 p) ∧ IsB x (slabOf x).1 ∧ (slabOf x).2 = 0)) := by
 obtain ⟨s1,s2⟩ := small3_law x hl
 unfold slabOf_pre slabOf letP letV parts point
 dsimp only
 by_cases h0 : x = []
 ·subst h0
  exact ⟨fun q => absurd (by decide) q,.inl ⟨rfl,rfl⟩⟩
 ·have hpos : 0 < x.length := List.length_pos_iff.2 h0
  have hb : ¬ ((((x.length:Nat):Int) == 0) = true) := by simp; exact h0
  have key := of_loop x hpos hl
  rw [if_neg hb,s2]
  by_cases hs : ∀ p ∈ x,Sm3 p
  ·rw [decide_eq_true hs,if_neg (by decide)]
   exact ⟨fun _ => ⟨s1,fun _ => ⟨by omega,hpos,hpos,by omega,hpos,hpos,key.1⟩⟩,.inr (.inr ⟨h0,hs,key.2,rfl⟩)⟩
  ·rw [decide_eq_false hs,if_pos (by decide)]
   exact ⟨fun _ => ⟨s1,fun q => absurd (by decide) q⟩,.inr (.inl ⟨h0,hs,rfl⟩)⟩
theorem hasB_law (b : B3) (p : P3) : hasB (b,p) = true ↔ Le3 b.1 p ∧ Le3 p b.2 := by
 unfold hasB letV parts Le3
 dsimp only
 by_cases h1 : p.1 < b.1.1
 ·rw [if_pos h1]; exact ⟨fun q => (by cases q),fun q => absurd q.1.1 (by omega)⟩
 rw [if_neg h1]
 by_cases h2 : p.1 > b.2.1
 ·rw [if_pos h2]; exact ⟨fun q => (by cases q),fun q => absurd q.2.1 (by omega)⟩
 rw [if_neg h2]
 by_cases h3 : p.2.1 < b.1.2.1
 ·rw [if_pos h3]; exact ⟨fun q => (by cases q),fun q => absurd q.1.2.1 (by omega)⟩
 rw [if_neg h3]
 by_cases h4 : p.2.1 > b.2.2.1
 ·rw [if_pos h4]; exact ⟨fun q => (by cases q),fun q => absurd q.2.2.1 (by omega)⟩
 rw [if_neg h4]
 by_cases h5 : p.2.2 < b.1.2.2
 ·rw [if_pos h5]; exact ⟨fun q => (by cases q),fun q => absurd q.1.2.2 (by omega)⟩
 rw [if_neg h5]
 by_cases h6 : p.2.2 > b.2.2.2
 ·rw [if_pos h6]; exact ⟨fun q => (by cases q),fun q => absurd q.2.2.2 (by omega)⟩
 rw [if_neg h6]
 exact ⟨fun _ => ⟨⟨by omega,by omega,by omega⟩,by omega,by omega,by omega⟩,fun _ => rfl⟩
theorem slabIs_law (b : B3) : slabIs_pre b ∧ (slabIs b = true ↔ (Sm3 b.1 ∧ Sm3 b.2) ∧ Le3 b.1 b.2) := by
 obtain ⟨s1,s2⟩ := small3_law [b.1,b.2] (by simp)
 refine ⟨s1,?_⟩
 unfold slabIs letV
 rw [s2]
 dsimp only
 have hr : Le3 b.1 b.1 := ⟨Int.le_refl _,Int.le_refl _,Int.le_refl _⟩
 by_cases hs : ∀ p ∈ [b.1,b.2],Sm3 p
 ·rw [decide_eq_true hs,if_pos rfl,hasB_law]
  exact ⟨fun q => ⟨⟨hs _ (by simp),hs _ (by simp)⟩,q.2⟩,fun q => ⟨hr,q.2⟩⟩
 ·rw [decide_eq_false hs,if_neg (by decide)]
  refine ⟨fun q => (by cases q),fun q => absurd (fun p hp => ?_) hs⟩
  simp only [List.mem_cons,List.not_mem_nil,or_false] at hp
  rcases hp with rfl | rfl
  ·exact q.1.1
  ·exact q.1.2
theorem IsB.is {x : List P3} {b : B3} (h : IsB x b) (hs : ∀ p ∈ x,Sm3 p) : (Sm3 b.1 ∧ Sm3 b.2) ∧ Le3 b.1 b.2 := by
 obtain ⟨p1,m1,e1⟩ := h.l1
 obtain ⟨p2,m2,e2⟩ := h.l2
 obtain ⟨p3,m3,e3⟩ := h.l3
 obtain ⟨p4,m4,e4⟩ := h.h1
 obtain ⟨p5,m5,e5⟩ := h.h2
 obtain ⟨p6,m6,e6⟩ := h.h3
 have s1 := (hs p1 m1).1
 have s2 := (hs p2 m2).2.1
 have s3 := (hs p3 m3).2.2
 have s4 := (hs p4 m4).1
 have s5 := (hs p5 m5).2.1
 have s6 := (hs p6 m6).2.2
 have a := h.low p1 m1
 have c := h.high p1 m1
 refine ⟨⟨?_,?_⟩,Int.le_trans a.1 c.1,Int.le_trans a.2.1 c.2.1,Int.le_trans a.2.2 c.2.2⟩
 ·rw [e1] at s1; rw [e2] at s2; rw [e3] at s3; exact ⟨s1,s2,s3⟩
 ·rw [e4] at s4; rw [e5] at s5; rw [e6] at s6; exact ⟨s4,s5,s6⟩
end Go.Proofs.Ytaipcbdilkcdbaa

namespace Go.Proofs.Ytaipcbdilkcdbaa
open Go Go.Ev Go.Proofs
def tp3 (t : T3) : List P3 := [t.1,t.2.1,t.2.2]
def ptsOf (L : List T3) (pl : List Int) : List P3 := pl.flatMap fun i => tp3 (L.getD i.toNat zT)
def InL (L : List T3) (pl : List Int) : Prop := ∀ i ∈ pl,0 ≤ i ∧ i < (L.length:Int)
def SmL (L : List T3) : Prop := ∀ t ∈ L,∀ p ∈ tp3 t,Sm3 p
theorem ptsOf_snoc (L : List T3) (pl : List Int) (i:Int) : ptsOf L (pl ++ [i]) = ptsOf L pl ++ tp3 (L.getD i.toNat zT) := by simp [ptsOf]
theorem ptsOf_append (L : List T3) (a b : List Int) : ptsOf L (a ++ b) = ptsOf L a ++ ptsOf L b := by simp [ptsOf]
theorem ptsOf_len (L : List T3) : ∀ (pl : List Int),(ptsOf L pl).length = 3 * pl.length
 | [] => rfl
 | i :: r => by
  have := ptsOf_len L r
  simp only [ptsOf,List.flatMap_cons,List.length_append,tp3,List.length_cons,List.length_nil] at this ⊢
  omega
theorem ptsOf_sm {L : List T3} (hs : SmL L) {pl : List Int} (hi : InL L pl) : ∀ p ∈ ptsOf L pl,Sm3 p := fun p hp => by
 obtain ⟨i,h1,h2⟩ := List.mem_flatMap.1 hp
 have := hi i h1
 exact hs _ (getD_in (by omega) zT) p h2
theorem ptsOf_mem {L : List T3} {a b : List Int} (h : ∀ i,i ∈ a ↔ i ∈ b) (p : P3) : p ∈ ptsOf L a ↔ p ∈ ptsOf L b := by
 simp only [ptsOf,List.mem_flatMap]
 exact ⟨fun ⟨i,h1,h2⟩ => ⟨i,(h i).1 h1,h2⟩,fun ⟨i,h1,h2⟩ => ⟨i,(h i).2 h1,h2⟩⟩
theorem boxF_run (L : List T3) (pl : List Int) (hi : InL L pl) (hl : pl.length ≤ 1000000) : TR (boxF_l0_step (L,pl)) (boxF_l0_pre (L,pl)) ([],0) fun r => r = ptsOf L pl := by
 refine for_loop pl.length (fun i s => s = (ptsOf L (pl.take i),(i:Int))) _ (fun i s h hj => ?_) (fun s hj => ?_) rfl
 ·subst hj
  have hin := hi _ (getD_in h 0)
  have hlt : (pl.getD i 0).toNat < L.length := by omega
  have hlen := ptsOf_len L (pl.take i)
  rw [List.length_take] at hlen
  refine ⟨?_,.inl ⟨_,?_,rfl⟩⟩
  ·unfold boxF_l0_pre
   intro _
   dsimp only
   rw [Int.toNat_natCast]
   exact ⟨by omega,h,h,hin,hlt,hlt,by omega⟩
  ·unfold boxF_l0_step
   dsimp only
   rw [if_pos (by omega),Int.toNat_natCast,cntI h (by omega),take_snoc h 0,ptsOf_snoc]; rfl
 ·subst hj
  refine ⟨?_,_,?_,rfl⟩
  ·unfold boxF_l0_pre
   intro q
   dsimp only at q; omega
  ·unfold boxF_l0_step
   dsimp only
   rw [if_neg (by omega),List.take_length]
theorem boxF_law {L : List T3} {pl : List Int} (hi : InL L pl) (hl : pl.length ≤ 1000000) : boxF_pre (L,pl) ∧ boxF (L,pl) = (slabOf (ptsOf L pl)).1 := by
 have k := boxF_run L pl hi hl
 have hlen := ptsOf_len L pl
 have s := slabOf_law (ptsOf L pl) (by omega)
 unfold boxF_pre boxF letP letV
 rw [k.2]
 exact ⟨⟨k.1,s.1⟩,rfl⟩
theorem boxF_is {L : List T3} (hs : SmL L) {pl : List Int} (hi : InL L pl) (hl : pl.length ≤ 1000000) (h0 : pl ≠ []) : IsB (ptsOf L pl) (boxF (L,pl)) := by
 have hlen := ptsOf_len L pl
 rw [(boxF_law hi hl).2]
 have hne : ptsOf L pl ≠ [] := fun e => by
  have h1 := congrArg List.length e
  have h2 := List.length_pos_iff.2 h0
  rw [hlen] at h1
  simp only [List.length_nil] at h1
  omega
 rcases (slabOf_law (ptsOf L pl) (by omega)).2 with ⟨e,_⟩ | ⟨_,e,_⟩ | ⟨_,_,e,_⟩
 ·exact absurd e hne
 ·exact absurd (ptsOf_sm hs hi) e
 ·exact e
theorem longest_law (b : B3) : longest_pre b ∧ 0 ≤ (longest b).1 ∧ (longest b).1 < 3 := by
 have key : TR (longest_l0_step b) (longest_l0_pre b) (b.1.1,(b.1.2.1,(b.1.2.2,(b.2.1,(b.2.2.1,(b.2.2.2,(0,0))))))) fun r => 0 ≤ r ∧ r < 3 := by
  refine for_loop 3 (fun k s => ∃ m : Int,s = (b.1.1,(b.1.2.1,(b.1.2.2,(b.2.1,(b.2.2.1,(b.2.2.2,(m,(k:Int)))))))) ∧ 0 ≤ m ∧ m < 3) _ (fun k s hk hj => ?_) (fun s hj => ?_) ⟨0,rfl,by decide,by decide⟩
  ·obtain ⟨m,rfl,h1,h2⟩ := hj
   have hc : w64 ((k:Int) + 1) = ((k + 1:Nat):Int) := by rw [w64_id (by omega) (by omega)]; omega
   refine ⟨?_,.inl ?_⟩
   ·unfold longest_l0_pre
    intro _
    dsimp only
    omega
   ·unfold longest_l0_step
    dsimp only
    rw [if_pos (by omega),hc]
    split
    ·exact ⟨_,rfl,(k:Int),rfl,by omega,by omega⟩
    ·exact ⟨_,rfl,m,rfl,h1,h2⟩
  ·obtain ⟨m,rfl,h1,h2⟩ := hj
   refine ⟨?_,m,?_,h1,h2⟩
   ·unfold longest_l0_pre
    intro q
    dsimp only at q; omega
   ·unfold longest_l0_step
    dsimp only
    rw [if_neg (by omega)]
 obtain ⟨s1,s2⟩ := slabIs_law b
 unfold longest_pre longest letP letV parts
 dsimp only
 cases slabIs b with
 | false => exact ⟨⟨s1,fun q => absurd (by decide) q⟩,(show (0:Int) ≤ 0 by decide),(show (0:Int) < 3 by decide)⟩
 | true =>
  rw [if_neg (by decide)]
  exact ⟨⟨s1,fun _ => key.1⟩,key.2.1,key.2.2⟩
theorem cloneI_p (x : List Int) (h : x.length < 1099511627776) : cloneI_pre x := by
 unfold cloneI_pre
 intro b hb
 cases b with
 | false => exact ⟨rfl,fun _ => by omega⟩
 | true =>
  cases x with
  | nil => exact ⟨rfl,fun q => absurd rfl q⟩
  | cons a r => exact absurd (hb (by simp)) (by decide)
def axs (L : List T3) (pl : List Int) : Int := (longest (boxF (L,pl))).1
def srtd (L : List T3) (pl : List Int) : List Int := srt (L,axs L pl) pl
theorem splitF_law {L : List T3} {pl : List Int} (hi : InL L pl) (hl : pl.length ≤ 1000000) :
  splitF_pre (L,pl) ∧ splitF (L,pl) = ((srtd L pl).take (pl.length / 2),(srtd L pl).drop (pl.length / 2)) := by
 obtain ⟨b1,_⟩ := boxF_law hi hl
 obtain ⟨g1,g2,g3⟩ := longest_law (boxF (L,pl))
 have hf : Fine (L,axs L pl) pl := ⟨by omega,fun e he => hi e he,g2,g3⟩
 obtain ⟨s1,s2⟩ := sort_law hf
 have hperm := (srt_perm (L,axs L pl) pl).length_eq
 have e1 : w64 (Int.tdiv ((pl.length:Nat):Int) 2) = ((pl.length / 2:Nat):Int) := by
  rw [Int.tdiv_eq_ediv_of_nonneg (by omega),w64_id (by omega) (by omega)]; omega
 have hcl : ∀ x,cloneI x = x := fun _ => rfl
 unfold splitF_pre splitF letP letV
 simp only [hcl]
 have s2' : (sortM (pl,(L,(longest (boxF (L,pl))).1))).2.1 = srtd L pl := s2
 have hlen : (srtd L pl).length = pl.length := hperm
 rw [s2',hlen,e1,Int.toNat_natCast]
 refine ⟨⟨b1,g1,cloneI_p pl (by omega),s1,⟨by omega,by omega⟩,⟨by omega,by omega⟩,by omega,by omega⟩,rfl⟩
theorem srtd_perm (L : List T3) (pl : List Int) : (srtd L pl).Perm pl := srt_perm _ _
end Go.Proofs.Ytaipcbdilkcdbaa
