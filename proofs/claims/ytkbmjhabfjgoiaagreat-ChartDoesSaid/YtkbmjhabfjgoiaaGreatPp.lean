/- Tools for plain laws: loops that count. -/
import Derived.Test.YtkbmjhabfjgoiaaGreatQj
import Derived.Test.YtkbmjhabfjgoiaaGreatCb
noncomputable section
set_option linter.unusedSectionVars false
set_option linter.unusedVariables false
set_option linter.unusedSimpArgs false
namespace Go.Proofs.YtkbmjhabfjgoiaaGreat
open Go Go.Ev Go.Proofs
def TR {S R : Type} [Inhabited R] (step : S → S ⊕ R) (pre : S → Prop) (s : S) (Post : R → Prop) : Prop := Term step pre s ∧ Post (run step s)
theorem TR.stop {S R : Type} [Inhabited R] {step : S → S ⊕ R} {pre : S → Prop} {s : S} {Post : R → Prop} {r : R} (hp : pre s) (h : step s = .inr r) (hq : Post r) : TR step pre s Post :=
 ⟨.mk s hp (fun s' e => by rw [h] at e; cases e),by rw [run_eq,h]; exact hq⟩
theorem TR.go {S R : Type} [Inhabited R] {step : S → S ⊕ R} {pre : S → Prop} {s s' : S} {Post : R → Prop} (hp : pre s) (h : step s = .inl s') (hn : TR step pre s' Post) : TR step pre s Post :=
 ⟨.mk s hp (fun t e => by rw [h] at e; cases e; exact hn.1),by rw [run_eq,h]; exact hn.2⟩
theorem TR.inv {S R : Type} [Inhabited R] {step : S → S ⊕ R} {pre : S → Prop} {Post : R → Prop} (J : S → Prop) (μ : S → Nat)
  (h : ∀ s,J s → pre s ∧ (∀ s',step s = .inl s' → J s' ∧ μ s' < μ s) ∧ ∀ r,step s = .inr r → Post r) {s : S} (hs : J s) : TR step pre s Post := loop_inv J μ Post h s hs
theorem for_loop {S R : Type} [Inhabited R] {step : S → S ⊕ R} {pre : S → Prop} (n:Nat) (J : Nat → S → Prop) (Post : R → Prop)
  (h1 : ∀ i s,i < n → J i s → pre s ∧ ((∃ s',step s = .inl s' ∧ J (i + 1) s') ∨ (∃ r,step s = .inr r ∧ Post r)))
  (h2 : ∀ s,J n s → pre s ∧ ∃ r,step s = .inr r ∧ Post r) {s : S} (h0 : J 0 s) : TR step pre s Post := by
 have key : ∀ k i,i + k = n → ∀ s,J i s → TR step pre s Post := by
  intro k
  induction k with
  | zero =>
   intro i e s hj
   have : i = n := by omega
   subst this
   obtain ⟨hp,r,e1,hq⟩ := h2 s hj
   exact TR.stop hp e1 hq
  | succ k ih =>
   intro i e s hj
   obtain ⟨hp,⟨s',e1,hj'⟩ | ⟨r,e1,hq⟩⟩ := h1 i s (by omega) hj
   ·exact TR.go hp e1 (ih (i + 1) (by omega) s' hj')
   ·exact TR.stop hp e1 hq
 exact key n 0 (by omega) s h0
theorem take_snoc {α : Type} {l : List α} {i : Nat} (h : i < l.length) (d : α) : l.take (i + 1) = l.take i ++ [l.getD i d] := by
 rw [List.take_add_one,List.getD_eq_getElem?_getD,List.getElem?_eq_getElem h]; rfl
theorem getD_in {α : Type} {l : List α} {i : Nat} (h : i < l.length) (d : α) : l.getD i d ∈ l := by
 rw [List.getD_eq_getElem?_getD,List.getElem?_eq_getElem h]; exact List.getElem_mem h
theorem mem_getD {α : Type} {l : List α} {x : α} (h : x ∈ l) (d : α) : ∃ i,i < l.length ∧ l.getD i d = x := by
 obtain ⟨i,hi,e⟩ := List.mem_iff_getElem.1 h
 exact ⟨i,hi,by rw [List.getD_eq_getElem?_getD,List.getElem?_eq_getElem hi,e]; rfl⟩
end Go.Proofs.YtkbmjhabfjgoiaaGreat

namespace Go.Proofs.YtkbmjhabfjgoiaaGreat
open Go Go.Ev Go.Proofs
abbrev Mp : Type := List (P2 × List Int)
def lk (l : Mp) (p : P2) : List Int := lookD (k := yy2) l p []
theorem eq2 (x y : P2) : eqT yy2 x y = true ↔ x = y := eqT_iff (t := yy2) rfl x y
theorem lk_put (x : P2) (z : List Int) (q : P2) : ∀ (l : Mp),lk (putM (k := yy2) l x z) q = if q = x then z else lk l q
 | [] => by
  unfold lk lookD
  simp only [putM,lookM]
  cases h : eqT yy2 q x with
  | true => rw [if_pos ((eq2 _ _).1 h)]; rfl
  | false => rw [if_neg (fun e => by rw [(eq2 _ _).2 e] at h; cases h)]
 | p :: r => by
  have ih := lk_put x z q r
  unfold lk lookD at ih ⊢
  simp only [putM]
  cases h : eqT yy2 x p.1 with
  | true =>
   have hx := (eq2 _ _).1 h
   simp only [lookM]
   cases h2 : eqT yy2 q x with
   | true => rw [if_pos ((eq2 _ _).1 h2)]; rfl
   | false =>
    rw [if_neg (fun e => by rw [(eq2 _ _).2 e] at h2; cases h2),← hx,h2]
  | false =>
   simp only [lookM]
   cases h2 : eqT yy2 q p.1 with
   | true =>
    have hq := (eq2 _ _).1 h2
    rw [if_neg (fun e => by rw [← e,h2] at h; cases h)]
   | false => exact ih
def Pr (a b:Int) : List P2 := if a ≠ b then [(minI a b,maxI a b)] else []
def Prs (t : T3) : List P2 := Pr t.1.1 t.2.1.1 ++ Pr t.2.1.1 t.2.2.1 ++ Pr t.2.2.1 t.1.1
theorem pr_len (a b:Int) : (Pr a b).length ≤ 1 := by unfold Pr; split <;> simp
theorem prs_len (t : T3) : (Prs t).length ≤ 3 := by
 have h1 := pr_len t.1.1 t.2.1.1
 have h2 := pr_len t.2.1.1 t.2.2.1
 have h3 := pr_len t.2.2.1 t.1.1
 simp only [Prs,List.length_append]; omega
theorem pr_step {R : Type} (a b:Int) (s : List P2) (k:Int) : (if ((a != b) = true) then (Sum.inl (s ++ [(minI a b,maxI a b)],k) : (List P2 × Int) ⊕ R) else Sum.inl (s,k)) = Sum.inl (s ++ Pr a b,k) := by
 unfold Pr
 by_cases h : a = b
 ·subst h; simp
 ·rw [if_pos (by simp [h]),if_pos h]
theorem epairs_step (t : T3) (s : List P2) : epairs_l0_step t (s,0) = .inl (s ++ Pr t.1.1 t.2.1.1,1) ∧ epairs_l0_step t (s,1) = .inl (s ++ Pr t.2.1.1 t.2.2.1,2) ∧ epairs_l0_step t (s,2) = .inl (s ++ Pr t.2.2.1 t.1.1,3) ∧ epairs_l0_step t (s,3) = .inr s := by
 have e0 : w64 (0 + 1) = 1 := by decide
 have e1 : w64 (1 + 1) = 2 := by decide
 have e2 : w64 (2 + 1) = 3 := by decide
 refine ⟨?_,?_,?_,?_⟩
 ·unfold epairs_l0_step
  dsimp only
  rw [if_pos (by decide),e0]
  exact pr_step _ _ _ _
 ·unfold epairs_l0_step
  dsimp only
  rw [if_pos (by decide),e1]
  exact pr_step _ _ _ _
 ·unfold epairs_l0_step
  dsimp only
  rw [if_pos (by decide),e2]
  exact pr_step _ _ _ _
 ·unfold epairs_l0_step
  dsimp only
  rw [if_neg (by decide)]
theorem epairs_pre' (t : T3) (s : List P2) (i:Int) (h : i = 0 ∨ i = 1 ∨ i = 2 ∨ i = 3) (hs : s.length ≤ 100) : epairs_l0_pre t (s,i) := by
 have e0 : w64 (0 + 1) = 1 := by decide
 have e1 : w64 (1 + 1) = 2 := by decide
 have e2 : w64 (2 + 1) = 3 := by decide
 unfold epairs_l0_pre
 dsimp only
 intro hi
 rcases h with rfl | rfl | rfl | rfl
 ·rw [e0]; exact ⟨by decide,by decide,by decide,fun _ => by omega⟩
 ·rw [e1]; exact ⟨by decide,by decide,by decide,fun _ => by omega⟩
 ·rw [e2]; exact ⟨by decide,by decide,by decide,fun _ => by omega⟩
 ·exact absurd hi (by decide)
theorem epairs_law (t : T3) : epairs_pre t ∧ epairs t = Prs t := by
 obtain ⟨_,_,_,_⟩ := epairs_step t []
 have h1 := pr_len t.1.1 t.2.1.1
 have h2 := pr_len t.2.1.1 t.2.2.1
 have h3 := pr_len t.2.2.1 t.1.1
 have key : TR (epairs_l0_step t) (epairs_l0_pre t) ([],0) (fun r => r = Prs t) := by
  refine TR.go (epairs_pre' t _ _ (.inl rfl) (by simp)) (epairs_step t []).1 ?_
  refine TR.go (epairs_pre' t _ _ (.inr (.inl rfl)) (by simp; omega)) (epairs_step t _).2.1 ?_
  refine TR.go (epairs_pre' t _ _ (.inr (.inr (.inl rfl))) (by simp; omega)) (epairs_step t _).2.2.1 ?_
  refine TR.stop (epairs_pre' t _ _ (.inr (.inr (.inr rfl))) (by simp; omega)) (epairs_step t _).2.2.2 ?_
  rfl
 exact ⟨key.1,key.2⟩
def MapB (l : Mp) (B:Nat) : Prop := ∀ p,(lk l p).length ≤ B
def TabOf (m : Msh) (l : Mp) (i j:Nat) : Prop := ∀ p k,k ∈ lk l p ↔ (∃ a : Nat,a < i ∧ k = a ∧ p ∈ Prs (Trg m a)) ∨ (k = (i:Int) ∧ p ∈ (Prs (Trg m i)).take j)
theorem last_mem (y : List Int) (h : y ≠ []) (i:Int) (e : y.getD (w64 ((y.length:Int) - 1)).toNat 0 = i) (hl : y.length < 4611686018427387904) : i ∈ y := by
 have hp : 0 < y.length := List.length_pos_iff.2 h
 rw [w64_id (by omega) (by omega)] at e
 rw [← e]
 exact getD_in (by omega) _
theorem etable_in (m : Msh) (i:Nat) (l : Mp) (B:Nat) (hB : B ≤ 100000) (hl : MapB l B) (ht : TabOf m l i 0) :
  TR (etable_l2_step m) (etable_l2_pre m) (l,((i:Int),((i:Int),(Prs (Trg m i),(((Prs (Trg m i)).length:Int),0))))) (fun r => r.2 = (i:Int) ∧ MapB r.1 (B + 3) ∧ TabOf m r.1 i 3) := by
 have hp3 := prs_len (Trg m i)
 refine for_loop (Prs (Trg m i)).length (fun j s => ∃ M,s = (M,((i:Int),((i:Int),(Prs (Trg m i),(((Prs (Trg m i)).length:Int),(j:Int)))))) ∧ MapB M (B + j) ∧ TabOf m M i j) _ (fun j s hj ⟨M,e,h1,h2⟩ => ?_) (fun s ⟨M,e,h1,h2⟩ => ?_) ⟨l,rfl,by simpa using hl,ht⟩
 ·subst e
  obtain ⟨p,hp⟩ : ∃ p,p = (Prs (Trg m i)).getD j (0,0) := ⟨_,rfl⟩
  have hy : (lk M p).length ≤ B + j := h1 p
  have hw : ∀ n : Nat,n ≠ 0 → n ≤ B + 3 → w64 ((n:Int) - 1) = ((n - 1:Nat):Int) := fun n h0 hn => by rw [w64_id (by omega) (by omega)]; omega
  have hput : ∀ z,z = lk M p ++ [(i:Int)] → MapB (putM (k := yy2) M p z) (B + (j + 1)) ∧ TabOf m (putM (k := yy2) M p z) i (j + 1) := fun z hz => by
   refine ⟨fun q => ?_,fun q k => ?_⟩
   ·rw [lk_put]
    split
    ·rw [hz,List.length_append,List.length_singleton]; omega
    ·exact Nat.le_trans (h1 q) (by omega)
   ·rw [lk_put,take_snoc hj (0,0),← hp]
    by_cases hq : q = p
    ·subst hq
     rw [if_pos rfl,hz,List.mem_append,List.mem_singleton,h2 q k,List.mem_append,List.mem_singleton]
     constructor
     ·rintro ((h | ⟨h,h'⟩) | h)
      ·exact .inl h
      ·exact .inr ⟨h,.inl h'⟩
      ·exact .inr ⟨h,.inr rfl⟩
     ·rintro (h | ⟨h,_⟩)
      ·exact .inl (.inl h)
      ·exact .inr h
    ·rw [if_neg hq,h2 q k,List.mem_append,List.mem_singleton]
     constructor
     ·rintro (h | ⟨h,h'⟩)
      ·exact .inl h
      ·exact .inr ⟨h,.inl h'⟩
     ·rintro (h | ⟨h,h' | h'⟩)
      ·exact .inl h
      ·exact .inr ⟨h,h'⟩
      ·exact absurd h' hq
  have hkeep : (i:Int) ∈ lk M p → MapB M (B + (j + 1)) ∧ TabOf m M i (j + 1) := fun hm => by
   refine ⟨fun q => Nat.le_trans (h1 q) (by omega),fun q k => ?_⟩
   rw [take_snoc hj (0,0),← hp,h2 q k,List.mem_append,List.mem_singleton]
   constructor
   ·rintro (h | ⟨h,h'⟩)
    ·exact .inl h
    ·exact .inr ⟨h,.inl h'⟩
   ·rintro (h | ⟨h,h' | h'⟩)
    ·exact .inl h
    ·exact .inr ⟨h,h'⟩
    ·subst h h'
     exact (h2 _ _).1 hm
  constructor
  ·unfold etable_l2_pre
   dsimp only [letP]
   intro _
   rw [Int.toNat_natCast,← hp]
   refine ⟨⟨by omega,by omega⟩,hj,hj,fun _ => by show (lk M p).length + 1 < _; omega,fun h0 => ?_⟩
   have h0 : (lk M p).length ≠ 0 := fun e => h0 (by show (((lk M p).length:Int) == 0) = true; rw [e]; rfl)
   have e1 := hw _ h0 (by omega)
   show ((0 ≤ w64 (((lk M p).length:Int) - 1) ∧ w64 (((lk M p).length:Int) - 1) < ((lk M p).length:Int)) ∧ (w64 (((lk M p).length:Int) - 1)).toNat < (lk M p).length ∧ (w64 (((lk M p).length:Int) - 1)).toNat < (lk M p).length ∧ (_ → (lk M p).length + 1 < 1099511627776))
   rw [e1,Int.toNat_natCast]
   exact ⟨⟨by omega,by omega⟩,by omega,by omega,fun _ => by omega⟩
  ·refine .inl ?_
   unfold etable_l2_step
   dsimp only [letV]
   rw [if_pos (by omega),Int.toNat_natCast,← hp,cnt (n := 100) (by omega) (by omega)]
   by_cases h0 : (((lookD (k := yy2) M p []).length:Int) == 0) = true
   ·rw [if_pos h0]
    exact ⟨_,rfl,_,rfl,hput _ rfl⟩
   ·rw [if_neg h0]
    by_cases h3 : ((List.getD (lookD (k := yy2) M p []) (Int.toNat (w64 (((lookD (k := yy2) M p []).length:Int) - 1))) 0) != (i:Int)) = true
    ·rw [if_pos h3]
     exact ⟨_,rfl,_,rfl,hput _ rfl⟩
    ·rw [if_neg h3]
     refine ⟨_,rfl,_,rfl,hkeep (last_mem (lk M p) (fun e => h0 ?_) _ (by unfold lk; simpa using h3) (by omega))⟩
     show (((lk M p).length:Int) == 0) = true
     rw [e]; rfl
 ·subst e
  constructor
  ·unfold etable_l2_pre
   dsimp only
   intro h; omega
  ·unfold etable_l2_step
   dsimp only
   rw [if_neg (by omega)]
   refine ⟨_,rfl,rfl,fun q => Nat.le_trans (h1 q) (by omega),?_⟩
   have e : (Prs (Trg m i)).take (Prs (Trg m i)).length = (Prs (Trg m i)).take 3 := by rw [List.take_length,List.take_of_length_le hp3]
   intro q k
   rw [h2 q k,e]
theorem tab_next {m : Msh} {l : Mp} {i : Nat} (h : TabOf m l i 3) : TabOf m l (i + 1) 0 := fun p k => by
 rw [h p k,List.take_of_length_le (prs_len _)]
 constructor
 ·rintro (⟨a,h1,h2,h3⟩ | ⟨h1,h2⟩)
  ·exact .inl ⟨a,by omega,h2,h3⟩
  ·exact .inl ⟨i,by omega,h1,h2⟩
 ·rintro (⟨a,h1,h2,h3⟩ | ⟨_,h2⟩)
  ·rcases Nat.lt_or_ge a i with h4 | h4
   ·exact .inl ⟨a,h4,h2,h3⟩
   ·have : a = i := by omega
    subst this
    exact .inr ⟨h2,h3⟩
  ·simp at h2
theorem etable_law (m : Msh) (hn : m.2.2.2.length ≤ 500) : etable_pre m ∧ MapB (etable m) 1500 ∧ TabOf m (etable m) m.2.2.2.length 0 := by
 have key : TR (etable_l0_step m) (etable_l0_pre m) ([],0) (fun r => MapB r 1500 ∧ TabOf m r m.2.2.2.length 0) := by
  refine for_loop m.2.2.2.length (fun i s => ∃ M,s = (M,(i:Int)) ∧ MapB M (3 * i) ∧ TabOf m M i 0) _ (fun i s hi ⟨M,e,h1,h2⟩ => ?_) (fun s ⟨M,e,h1,h2⟩ => ?_) ⟨[],rfl,fun p => by simp [lk,lookD,lookM],fun p k => by simp [lk,lookD,lookM]⟩
  ·subst e
   have hin := etable_in m i M (3 * i) (by omega) h1 h2
   have eT : m.2.2.2.getD i ((0,(0,0)),((0,(0,0)),(0,(0,0)))) = Trg m i := by unfold Trg; rw [Int.toNat_natCast]
   constructor
   ·unfold etable_l0_pre
    dsimp only [letP]
    intro _
    rw [Int.toNat_natCast,eT,(epairs_law _).2]
    exact ⟨⟨by omega,by omega⟩,hi,hi,(epairs_law _).1,hin.1⟩
   ·refine .inl ?_
    unfold etable_l0_step
    dsimp only [letV]
    rw [if_pos (by omega),Int.toNat_natCast,eT,(epairs_law _).2]
    obtain ⟨g1,g2,g3⟩ := hin.2
    rw [g1,cnt (n := 500) (by omega) (by omega)]
    exact ⟨_,rfl,_,rfl,fun p => Nat.le_trans (g2 p) (by omega),tab_next g3⟩
  ·subst e
   constructor
   ·unfold etable_l0_pre
    dsimp only
    intro h; omega
   ·unfold etable_l0_step
    dsimp only
    rw [if_neg (by omega)]
    exact ⟨_,rfl,fun p => Nat.le_trans (h1 p) (by omega),h2⟩
 exact ⟨key.1,key.2⟩
end Go.Proofs.YtkbmjhabfjgoiaaGreat

namespace Go.Proofs.YtkbmjhabfjgoiaaGreat
open Go Go.Ev Go.Proofs
theorem mem_sortZ (l : List Int) (z:Int) : z ∈ sortZ l ↔ z ∈ l := List.mem_mergeSort
theorem mem_compZ (l : List Int) (z:Int) : z ∈ compZ l ↔ z ∈ l := by
 unfold compZ Lib.compact Lib.compactUpTo
 have hb : ∀ j,j < l.length → l.toArray[j]! = l.getD j 0 := fun j hj => by
  rw [getElem!_pos l.toArray j (by simpa using hj),List.getD_eq_getElem?_getD,List.getElem?_eq_getElem hj]; rfl
 rw [List.mem_map]
 constructor
 ·rintro ⟨j,hj,rfl⟩
  have hj : j < l.length := List.mem_range.1 (List.mem_filter.1 hj).1
  rw [hb j hj]; exact getD_in hj 0
 ·intro hz
  obtain ⟨j,hj,rfl⟩ := mem_getD hz 0
  induction j with
  | zero => exact ⟨0,List.mem_filter.2 ⟨List.mem_range.2 hj,by simp [Lib.keeps]⟩,hb 0 hj⟩
  | succ j ih =>
   by_cases hk : Lib.keeps l.toArray (j + 1) = true
   ·exact ⟨j + 1,List.mem_filter.2 ⟨List.mem_range.2 hj,hk⟩,hb _ hj⟩
   ·have e : l.toArray[j + 1]! = l.toArray[j]! := by
     simp only [Lib.keeps,decide_eq_true_eq,not_or,Decidable.not_not] at hk
     exact hk.2
    rw [hb _ hj,hb _ (by omega)] at e
    rw [e]
    exact ih (by omega) (getD_in (by omega) 0)
abbrev NX : Type := Mp × (Msh × Int)
theorem enear_in (x : NX) (ps : List P2) (i:Nat) (p : P2) (y : List Int) (hy : y.length ≤ 1500) (out : List Int) (ho : out.length ≤ 5000) :
  TR (enear_l2_7_step x) (enear_l2_7_pre x) (out,(ps,((ps.length:Int),((i:Int),(p,(y,((y.length:Int),0))))))) (fun r => ∃ o,r = (o,(ps,((ps.length:Int),(i:Int)))) ∧ o.length ≤ out.length + 1500 ∧ ∀ k,k ∈ o ↔ k ∈ out ∨ (k ≠ x.2.2 ∧ k ∈ y)) := by
 refine for_loop y.length (fun j s => ∃ o,s = (o,(ps,((ps.length:Int),((i:Int),(p,(y,((y.length:Int),(j:Int)))))))) ∧ o.length ≤ out.length + j ∧ ∀ k,k ∈ o ↔ k ∈ out ∨ (k ≠ x.2.2 ∧ k ∈ y.take j)) _ (fun j s hj ⟨o,e,h1,h2⟩ => ?_) (fun s ⟨o,e,h1,h2⟩ => ?_) ⟨out,rfl,Nat.le_refl _,fun k => by simp⟩
 ·subst e
  constructor
  ·unfold enear_l2_7_pre
   dsimp only
   intro _
   rw [Int.toNat_natCast]
   exact ⟨⟨by omega,by omega⟩,hj,hj,fun _ => by omega⟩
  ·refine .inl ?_
   unfold enear_l2_7_step
   dsimp only
   rw [if_pos (by omega),Int.toNat_natCast,cnt (n := 1500) (by omega) (by omega)]
   by_cases hk : y.getD j 0 = x.2.2
   ·rw [if_neg (by simpa using hk)]
    refine ⟨_,rfl,o,rfl,by omega,fun k => ?_⟩
    rw [h2 k,take_snoc hj 0,List.mem_append,List.mem_singleton]
    constructor
    ·rintro (h | ⟨h,h'⟩)
     ·exact .inl h
     ·exact .inr ⟨h,.inl h'⟩
    ·rintro (h | ⟨h,h' | h'⟩)
     ·exact .inl h
     ·exact .inr ⟨h,h'⟩
     ·exact absurd (h'.trans hk) h
   ·rw [if_pos (by simpa using hk)]
    refine ⟨_,rfl,_,rfl,by rw [List.length_append,List.length_singleton]; omega,fun k => ?_⟩
    rw [List.mem_append,List.mem_singleton,h2 k,take_snoc hj 0,List.mem_append,List.mem_singleton]
    constructor
    ·rintro ((h | ⟨h,h'⟩) | h)
     ·exact .inl h
     ·exact .inr ⟨h,.inl h'⟩
     ·exact .inr ⟨fun e => hk (h ▸ e),.inr h⟩
    ·rintro (h | ⟨h,h' | h'⟩)
     ·exact .inl (.inl h)
     ·exact .inl (.inr ⟨h,h'⟩)
     ·exact .inr h'
 ·subst e
  constructor
  ·unfold enear_l2_7_pre
   dsimp only
   intro h; omega
  ·unfold enear_l2_7_step
   dsimp only
   rw [if_neg (by omega)]
   refine ⟨_,rfl,o,rfl,by omega,fun k => ?_⟩
   rw [h2 k,List.take_length]
theorem enear_out (x : NX) (ps : List P2) (hps : ps.length ≤ 3) (hB : MapB x.1 1500) :
  TR (enear_l0_7_step x) (enear_l0_7_pre x) ([],(ps,((ps.length:Int),0))) (fun r => r.length ≤ 4500 ∧ ∀ k,k ∈ r ↔ k ≠ x.2.2 ∧ ∃ p ∈ ps,k ∈ lk x.1 p) := by
 refine for_loop ps.length (fun j s => ∃ o,s = (o,(ps,((ps.length:Int),(j:Int)))) ∧ o.length ≤ 1500 * j ∧ ∀ k,k ∈ o ↔ k ≠ x.2.2 ∧ ∃ p ∈ ps.take j,k ∈ lk x.1 p) _ (fun j s hj ⟨o,e,h1,h2⟩ => ?_) (fun s ⟨o,e,h1,h2⟩ => ?_) ⟨[],rfl,by simp,fun k => by simp⟩
 ·subst e
  have hin := enear_in x ps j (ps.getD j (0,0)) (lk x.1 (ps.getD j (0,0))) (hB _) o (by omega)
  constructor
  ·unfold enear_l0_7_pre
   dsimp only [letP]
   intro _
   rw [Int.toNat_natCast]
   exact ⟨⟨by omega,by omega⟩,hj,hj,hin.1⟩
  ·refine .inl ?_
   unfold enear_l0_7_step
   dsimp only [letV]
   rw [if_pos (by omega),Int.toNat_natCast]
   obtain ⟨o',g1,g2,g3⟩ := hin.2
   unfold lk at g1
   rw [g1]
   dsimp only
   rw [cnt (n := 100) (by omega) (by omega)]
   refine ⟨_,rfl,o',rfl,by omega,fun k => ?_⟩
   rw [g3 k,h2 k,take_snoc hj (0,0)]
   constructor
   ·rintro (⟨h,p,h',h''⟩ | ⟨h,h'⟩)
    ·exact ⟨h,p,by simp [h'],h''⟩
    ·exact ⟨h,_,by simp,h'⟩
   ·rintro ⟨h,p,h',h''⟩
    rw [List.mem_append,List.mem_singleton] at h'
    rcases h' with h' | rfl
    ·exact .inl ⟨h,p,h',h''⟩
    ·exact .inr ⟨h,h''⟩
 ·subst e
  constructor
  ·unfold enear_l0_7_pre
   dsimp only
   intro h; omega
  ·unfold enear_l0_7_step
   dsimp only
   rw [if_neg (by omega)]
   refine ⟨_,rfl,by omega,fun k => ?_⟩
   rw [h2 k,List.take_length]
theorem enear_law (M : Mp) (m : Msh) (i:Int) (hi : Has m i) (hB : MapB M 1500) : enear_pre (M,(m,i)) ∧ (∀ k,k ∈ (enear (M,(m,i))).1 ↔ k ≠ i ∧ ∃ p ∈ Prs (Trg m i),k ∈ lk M p) ∧ (enear (M,(m,i))).1.length ≤ 4500 := by
 have eT : m.2.2.2.getD i.toNat ((0,(0,0)),((0,(0,0)),(0,(0,0)))) = Trg m i := rfl
 have h := enear_out (M,(m,i)) (Prs (Trg m i)) (prs_len _) hB
 have hl : ∀ l : List Int,(sortZ l).length = l.length := fun l => List.length_mergeSort l
 refine ⟨?_,fun k => ?_,?_⟩
 ·unfold enear_pre
  dsimp only [letP]
  rw [eT,(epairs_law _).2]
  have := h.2.1
  exact ⟨hi,by omega,by omega,(epairs_law _).1,h.1,by omega,by rw [hl]; omega⟩
 ·unfold enear
  dsimp only [letV]
  rw [eT,(epairs_law _).2,mem_compZ,mem_sortZ]
  exact h.2.2 k
 ·unfold enear
  dsimp only [letV]
  rw [eT,(epairs_law _).2]
  refine Nat.le_trans (compact_le _) ?_
  rw [hl]; exact h.2.1
def Adj (m : Msh) (i k:Int) : Prop := k ≠ i ∧ Has m k ∧ ∃ p ∈ Prs (Trg m i),p ∈ Prs (Trg m k)
theorem enext_law {m : Msh} (hm : meshB m = true) {i : Int} (hi : Has m i) : enext_pre (m,i) ∧ (∀ k,k ∈ (enext (m,i)).1 ↔ Adj m i k) ∧ (enext (m,i)).1.length ≤ 4500 := by
 have hn := (mesh_len hm).2.2.2
 obtain ⟨t1,t2,t3⟩ := etable_law m hn
 obtain ⟨n1,n2,n3⟩ := enear_law (etable m) m i hi t2
 refine ⟨?_,fun k => ?_,?_⟩
 rotate_right
 ·unfold enext
  dsimp only [letV]
  rw [(meshis_law m).2,hm,if_neg (by decide),if_neg (by omega),if_neg (by omega)]
  exact n3
 ·unfold enext_pre
  dsimp only [letP]
  exact ⟨(meshis_law m).1,fun _ _ _ => ⟨t1,n1⟩⟩
 ·unfold enext
  dsimp only [letV]
  rw [(meshis_law m).2,hm,if_neg (by decide),if_neg (by omega),if_neg (by omega),n2 k]
  unfold Adj
  constructor
  ·rintro ⟨h1,p,h2,h3⟩
   rcases (t3 p k).1 h3 with ⟨a,a1,rfl,a3⟩ | ⟨_,h4⟩
   ·exact ⟨h1,⟨by omega,by omega⟩,p,h2,a3⟩
   ·simp at h4
  ·rintro ⟨h1,h2,p,h3,h4⟩
   refine ⟨h1,p,h3,(t3 p k).2 (.inl ⟨k.toNat,by omega,by omega,?_⟩)⟩
   rw [show ((k.toNat:Nat):Int) = k by omega]; exact h4
end Go.Proofs.YtkbmjhabfjgoiaaGreat

namespace Go.Proofs.YtkbmjhabfjgoiaaGreat
open Go Go.Ev Go.Proofs
theorem tame_mesh {m : Msh} (h : tameB m = true) : meshB m = true := by
 unfold tameB at h
 simp only [Bool.and_eq_true] at h
 exact h.1
def Way (m : Msh) (i:Int) : P2 × Bool := if Has m i ∧ Nm m i ≠ (0,(0,0)) then ((Ax (Nm m i),sg (Cp (Nm m i) (Ax (Nm m i)))),true) else ((0,0),false)
theorem bway_law {m : Msh} (hm : tameB m = true) (i:Int) : bway_pre (m,i) ∧ bway (m,i) = Way m i := by
 unfold bway_pre bway
 dsimp only [letP,letV]
 rw [bhas_law,bpoints_law]
 by_cases h : Has m i
 ·refine ⟨fun _ => ⟨bpoints_tm hm h,sfacing_tm _⟩,?_⟩
  rw [decide_eq_true h,if_neg (by decide)]
  obtain ⟨n1,n2,n3⟩ := pts_near hm h
  rw [show Pts m i = ((Pts m i).1,((Pts m i).2.1,(Pts m i).2.2)) from rfl,sfacing_law,if_pos ⟨by omega,by omega,by omega⟩]
  unfold Way
  rw [show Nrm (Pts m i).1 (Pts m i).2.1 (Pts m i).2.2 = Nm m i from rfl]
  by_cases hz : Nm m i = (0,(0,0))
  ·rw [if_pos hz,if_neg (fun q => q.2 hz)]; rfl
  ·rw [if_neg hz,if_pos ⟨h,hz⟩]; rfl
 ·refine ⟨fun h2 => absurd (by rw [decide_eq_false h]; rfl) h2,?_⟩
  rw [decide_eq_false h,if_pos (by decide)]
  unfold Way
  rw [if_neg (fun q => h q.1)]
theorem way_has {m : Msh} {i : Int} {w : P2} (h : Way m i = (w,true)) : Has m i ∧ Nm m i ≠ (0,(0,0)) ∧ w = (Ax (Nm m i),sg (Cp (Nm m i) (Ax (Nm m i)))) := by
 unfold Way at h
 split at h
 ·rename_i h1
  simp only [Prod.mk.injEq,and_true] at h
  exact ⟨h1.1,h1.2,h.symm⟩
 ·simp at h
theorem way_ax {m : Msh} {i : Int} {w : P2} (h : Way m i = (w,true)) : 0 ≤ w.1 ∧ w.1 < 3 := by
 rw [(way_has h).2.2]; exact ax_in _
theorem way_some {m : Msh} {i : Int} : (Way m i).2 = true ↔ Way m i = ((Way m i).1,true) := by
 constructor
 ·intro h; rw [← h]
 ·intro h; rw [h]
abbrev Pc : Type := Msh × (P2 × List Int)
theorem plooks_law {m : Msh} (hm : tameB m = true) (w : P2) (l : List Int) (i:Int) : plooks_pre ((m,(w,l)),i) ∧ (plooks ((m,(w,l)),i) = true ↔ Way m i = (w,true)) := by
 unfold plooks_pre plooks
 dsimp only [letV]
 obtain ⟨h1,h2⟩ := bway_law hm i
 refine ⟨h1,?_⟩
 rw [h2]
 cases e : (Way m i).2 with
 | false =>
  simp only [Bool.false_eq_true,if_false,false_iff]
  intro h; rw [h] at e; cases e
 | true =>
  rw [if_pos rfl,way_some.1 e]
  simp only [Bool.and_true,Bool.and_eq_true,beq_iff_eq,Prod.mk.injEq,and_true]
  exact ⟨fun h => Prod.ext h.1 h.2,fun h => by rw [h]; exact ⟨rfl,rfl⟩⟩
theorem bshadow_law {m : Msh} (hm : tameB m = true) {i : Int} (h : Has m i) (ax:Int) : bshadow_pre (m,(i,ax)) ∧ (0 ≤ ax ∧ ax < 3 → bshadow (m,(i,ax)) = Shd m i ax) := by
 unfold bshadow_pre bshadow
 dsimp only [letP,letV]
 rw [bpoints_law]
 refine ⟨⟨bpoints_tm hm h,(vdrop_law _ _).1,(vdrop_law _ _).1,(vdrop_law _ _).1⟩,fun ha => ?_⟩
 rw [(vdrop_law _ _).2,(vdrop_law _ _).2,(vdrop_law _ _).2,if_pos ha,if_pos ha,if_pos ha]
 rfl
def stepI (l : List Int) (f : Int → Bool) (s:Int) : Int ⊕ (Int ⊕ Unit) := if s < ((l.length:Nat):Int) then (if f (l.getD s.toNat 0) = true then .inr (.inl s) else .inl (w64 (s + 1))) else .inr (.inr ())
def preI (l : List Int) (p : Int → Prop) (s:Int) : Prop := s < ((l.length:Nat):Int) → (0 ≤ s ∧ s < ((l.length:Nat):Int)) ∧ s.toNat < l.length ∧ s.toNat < l.length ∧ p (l.getD s.toNat 0)
def findI (l : List Int) (f : Int → Bool) : Int := match l.findIdx? f with | some i => (i:Int) | none => -1
theorem idx_law (l : List Int) (hl : l.length < 4611686018427387904) (f : Int → Bool) (p : Int → Prop) (h : ∀ k ∈ l,p k) : Term (stepI l f) (preI l p) 0 ∧ Sum.elim (fun a => a) (fun _ => -1) (run (stepI l f) 0) = findI l f :=
 index_loop l hl f _ _ (fun i hi => fun hlt => ⟨⟨by omega,hlt⟩,by omega,by omega,h _ (getD_in (by omega) 0)⟩) (fun i x hx => by
  have hlt := lt_of_get hx
  unfold stepI
  rw [if_pos (by omega),Int.toNat_natCast,getD_of hx]) (by
  unfold stepI
  rw [if_neg (by omega)])
theorem idx_any (l : List Int) (f : Int → Bool) : decide (findI l f ≥ 0) = l.any f := find_any l f
theorem containsI_law (l : List Int) (hl : l.length < 4611686018427387904) (v:Int) : containsI_pre (l,v) ∧ (containsI (l,v) = true ↔ v ∈ l) := by
 have hh := index_loop l hl (fun k => v == k) (indexI_l0_step (l,v)) (indexI_l0_pre (l,v)) (fun i hi => by
   unfold indexI_l0_pre
   intro h
   simp only [Int.toNat_natCast]; dsimp only at h ⊢; omega) (fun i x hx => by
   have hlt := lt_of_get hx
   unfold indexI_l0_step
   dsimp only
   rw [if_pos (by omega),Int.toNat_natCast,getD_of hx]) (by
   unfold indexI_l0_step
   dsimp only
   rw [if_neg (by omega)])
 refine ⟨hh.1,?_⟩
 unfold containsI indexI
 dsimp only [letV]
 rw [hh.2,find_any,List.any_eq_true]
 constructor
 ·rintro ⟨x,h1,h2⟩
  rw [beq_iff_eq.1 h2]; exact h1
 ·intro h; exact ⟨v,h,by simp⟩
theorem containsO_law (l : List Int) (hl : l.length < 4611686018427387904) (x : T2 × Pc) (h : ∀ k ∈ l,pover_pre (k,x)) : containsO_pre (l,x) ∧ containsO (l,x) = l.any fun k => pover (k,x) := by
 have hh := idx_law l hl (fun k => pover (k,x)) (fun k => pover_pre (k,x)) h
 refine ⟨hh.1,?_⟩
 rw [← idx_any,← hh.2]; rfl
theorem containsP_law (l : List Int) (hl : l.length < 4611686018427387904) (x : Pc) (h : ∀ k ∈ l,pnear_pre (k,x)) : containsP_pre (l,x) ∧ containsP (l,x) = l.any fun k => pnear (k,x) := by
 have hh := idx_law l hl (fun k => pnear (k,x)) (fun k => pnear_pre (k,x)) h
 refine ⟨hh.1,?_⟩
 rw [← idx_any,← hh.2]; rfl
theorem containsL_law (l : List Int) (hl : l.length < 4611686018427387904) (x : Pc) (h : ∀ k ∈ l,plookn_pre (k,x)) : containsL_pre (l,x) ∧ containsL (l,x) = l.any fun k => plookn (k,x) := by
 have hh := idx_law l hl (fun k => plookn (k,x)) (fun k => plookn_pre (k,x)) h
 refine ⟨hh.1,?_⟩
 rw [← idx_any,← hh.2]; rfl
theorem indexF_law (l : List Int) (hl : l.length < 4611686018427387904) (x : Pc) (h : ∀ k ∈ l,pfits_pre (x,k)) : indexF_pre (l,x) ∧ indexF (l,x) = findI l fun k => pfits (x,k) := by
 have hh := idx_law l hl (fun k => pfits (x,k)) (fun k => pfits_pre (x,k)) h
 refine ⟨hh.1,?_⟩
 rw [← hh.2]; rfl
def Over (m : Msh) (ax i k:Int) : Prop := (moverlap (Shd m i ax,Shd m k ax)).1 = true
structure FitsP (m : Msh) (w : P2) (l : List Int) (i:Int) : Prop where
 way : Way m i = (w,true)
 new : i ∉ l
 apart : ∀ k ∈ l,¬ Over m w.1 i k
 near : l = [] ∨ ∃ k ∈ l,Adj m i k
theorem pover_law {m : Msh} (hm : tameB m = true) {k : Int} (hk : Has m k) (s : T2) (w : P2) (l : List Int) : pover_pre (k,(s,(m,(w,l)))) ∧ (0 ≤ w.1 ∧ w.1 < 3 → pover (k,(s,(m,(w,l)))) = (moverlap (s,Shd m k w.1)).1) := by
 unfold pover_pre pover
 dsimp only [letP,letV]
 obtain ⟨h1,h2⟩ := bshadow_law hm hk w.1
 exact ⟨⟨h1,moverlap_tm _⟩,fun h => by rw [h2 h]⟩
theorem pfits_law {m : Msh} (hm : tameB m = true) {w : P2} {l : List Int} (hl : l.length ≤ 1000) (hk : ∀ k ∈ l,Has m k) {i : Int} (hi : Has m i) : pfits_pre ((m,(w,l)),i) ∧ (pfits ((m,(w,l)),i) = true ↔ FitsP m w l i) := by
 obtain ⟨a1,a2⟩ := plooks_law hm w l i
 obtain ⟨b1,b2⟩ := containsI_law l (by omega) i
 obtain ⟨c1,c2⟩ := bshadow_law hm hi w.1
 obtain ⟨d1,d2⟩ := containsO_law l (by omega) (bshadow (m,(i,w.1)),(m,(w,l))) fun k h => (pover_law hm (hk k h) _ w l).1
 obtain ⟨e1,e2,e3⟩ := enext_law (tame_mesh hm) hi
 have f0 : ∀ k,pnear_pre (k,(m,(w,l))) ∧ pnear (k,(m,(w,l))) = containsI (l,k) := fun k => ⟨(containsI_law l (by omega) k).1,rfl⟩
 obtain ⟨f1,f2⟩ := containsP_law (enext (m,i)).1 (by omega) (m,(w,l)) fun k _ => (f0 k).1
 constructor
 ·unfold pfits_pre
  dsimp only [letP]
  exact ⟨a1,fun _ => ⟨b1,fun _ => ⟨c1,d1,fun _ => ⟨e1,fun _ => f1⟩⟩⟩⟩
 ·unfold pfits
  dsimp only [letV]
  by_cases hw : Way m i = (w,true)
  rotate_left
  ·have : plooks ((m,(w,l)),i) = false := by
    cases h : plooks ((m,(w,l)),i) with
    | false => rfl
    | true => exact absurd (a2.1 h) hw
   rw [this,if_pos (by decide)]
   exact ⟨fun h => (by cases h),fun h => absurd h.way hw⟩
  have hax := way_ax hw
  rw [a2.2 hw,if_neg (by decide)]
  by_cases hn : i ∈ l
  ·rw [if_pos (b2.2 hn)]
   exact ⟨fun h => (by cases h),fun h => absurd hn h.new⟩
  rw [if_neg fun h => hn (b2.1 h),d2,c2 hax]
  have hO : ((l.any fun k => pover (k,(Shd m i w.1,(m,(w,l))))) = true) ↔ ∃ k ∈ l,Over m w.1 i k := by
   rw [List.any_eq_true]
   constructor
   ·rintro ⟨k,h1,h2⟩
    rw [(pover_law hm (hk k h1) _ w l).2 hax] at h2
    exact ⟨k,h1,h2⟩
   ·rintro ⟨k,h1,h2⟩
    exact ⟨k,h1,by rw [(pover_law hm (hk k h1) _ w l).2 hax]; exact h2⟩
  by_cases ho : ∃ k ∈ l,Over m w.1 i k
  ·rw [if_pos (hO.2 ho)]
   obtain ⟨k,h1,h2⟩ := ho
   exact ⟨fun h => (by cases h),fun h => absurd h2 (h.apart k h1)⟩
  rw [if_neg fun h => ho (hO.1 h)]
  have hap : ∀ k ∈ l,¬ Over m w.1 i k := fun k h1 h2 => ho ⟨k,h1,h2⟩
  by_cases h0 : l = []
  ·rw [if_pos (by rw [h0]; decide)]
   exact ⟨fun _ => ⟨hw,hn,hap,.inl h0⟩,fun _ => rfl⟩
  ·have hlen : l.length ≠ 0 := fun e => h0 (List.eq_nil_of_length_eq_zero e)
   rw [if_neg (by simpa using h0),f2,List.any_eq_true]
   constructor
   ·rintro ⟨k,h1,h2⟩
    rw [(f0 k).2] at h2
    exact ⟨hw,hn,hap,.inr ⟨k,(containsI_law l (by omega) k).2.1 h2,(e2 k).1 h1⟩⟩
   ·intro h
    rcases h.near with h1 | ⟨k,h1,h2⟩
    ·exact absurd h1 h0
    ·exact ⟨k,(e2 k).2 h2,by rw [(f0 k).2]; exact (containsI_law l (by omega) k).2.2 h1⟩
end Go.Proofs.YtkbmjhabfjgoiaaGreat
