/- Plain laws: AtlasOrder. -/
import Derived.Test.YtbjfokijjefoeaaBf
import Derived.Test.YtbjfokijjefoeaaAm
import Derived.Test.YtbjfokijjefoeaaAh
namespace Go.Proofs.Ytbjfokijjefoeaa
open Go Go.Ev Go.Proofs
set_option linter.unusedVariables false
set_option linter.unusedSimpArgs false
theorem mapped_law (x : Bool) : mappedL_pre x ∧ mappedL x = true := by
 obtain ⟨b1,b2⟩ := l0_build
 obtain ⟨c1,c2⟩ := l0_build4
 obtain ⟨d1',d2'⟩ := l0_build0
 obtain ⟨e1,e2⟩ := a0_all
 obtain ⟨f1,f2⟩ := a0_find
 obtain ⟨g1,g2⟩ := order_law l0 (by decide)
 rw [l0_order] at g2
 obtain ⟨i1,i2⟩ := a0_isM
 have s1 := r1same_law [1,0] [1,0] (by decide)
 have s2 := r1same_law [0,1] [0,1] (by decide)
 have s1' := s1.2.2 rfl
 have s2' := s2.2.2 rfl
 unfold mappedL_pre mappedL letP letV
 dsimp only
 rw [d1_eq,d2_eq]
 refine ⟨⟨b1,c1,d1',?_⟩,?_⟩
 ·rw [b2]
  intro _ _
  refine ⟨e1,f1,g1,?_⟩
  rw [g2,e2,f2]
  refine ⟨s1.1,fun _ => ⟨by decide,by decide,by decide,fun _ => ⟨by decide,by decide,by decide,fun _ _ _ _ => ⟨s2.1,fun _ _ _ => ⟨by decide,by decide,by decide,fun _ _ => i1⟩⟩⟩⟩⟩
 ·rw [c2,d2',b2]
  dsimp only
  rw [e2,f2,g2]
  dsimp only
  rw [s1',s2',i2]
  rfl
theorem letP_i {α : Type} {v : α} {f : α → Prop} (h : f v) : letP v f := h
theorem letP_k {α : Type} (v : α) {P : Prop} (h : P) : letP v (fun _ => P) := h
theorem cS_l {α β : Type} {x : α ⊕ β} {a : α} {f : α → Prop} {g : β → Prop} (e : x = .inl a) (h : f a) : cS x f g := by subst e; exact h
theorem cS_r {α β : Type} {x : α ⊕ β} {b : β} {f : α → Prop} {g : β → Prop} (e : x = .inr b) (h : g b) : cS x f g := by subst e; exact h
def SeenB (o : List Int) (n i:Nat) (b : List Bool) : Prop := b.length = n ∧ ∀ v : Nat,v < n → (b.getD v false = true ↔ (v:Int) ∈ o.take i)
theorem ord_loop (l : Pts) (hl : l.length ≤ 30) : TR (lawOrd_l0_step l) (lawOrd_l0_pre l) (Ord l,(List.replicate l.length false,0)) fun r => r = .inr () := by
 have hlo := ord_len l
 refine for_loop l.length (fun i st => ∃ b,st = (Ord l,(b,(i:Int))) ∧ SeenB (Ord l) l.length i b) _ (fun i st hi hj => ?_) (fun st hj => ?_) ⟨_,rfl,by simp,fun v hv => ?_⟩
 ·obtain ⟨b,rfl,hb,hJ⟩ := hj
  have hg := ord_get l hi
  have hnd : ¬ (Ord l).getD i 0 ∈ (Ord l).take i := fun hm => by
   obtain ⟨j,hj,e⟩ := List.getElem_of_mem hm
   rw [List.length_take] at hj
   rw [List.getElem_take] at e
   have : j = i := nodup_getD (ord_nodup l) (by omega) (by omega) (by rw [List.getD_eq_getElem?_getD,List.getElem?_eq_getElem (by omega)]; exact e)
   omega
  have hns : b.getD ((Ord l).getD i 0).toNat false = false := by
   cases hc : b.getD ((Ord l).getD i 0).toNat false with
   | false => rfl
   | true =>
    have := (hJ ((Ord l).getD i 0).toNat (by omega)).1 hc
    rw [show ((((Ord l).getD i 0).toNat:Nat):Int) = (Ord l).getD i 0 by omega] at this
    exact absurd this hnd
  have hnew : SeenB (Ord l) l.length (i + 1) (b.set ((Ord l).getD i 0).toNat true) := by
   refine ⟨by simp [hb],fun v hv => ?_⟩
   rw [take_snoc (by rw [hlo]; exact hi) 0,List.mem_append,List.mem_singleton,List.getD_eq_getElem?_getD,List.getElem?_set]
   by_cases e : ((Ord l).getD i 0).toNat = v
   ·rw [if_pos e,if_pos (by omega)]
    exact ⟨fun _ => .inr (by omega),fun _ => rfl⟩
   ·rw [if_neg e,← List.getD_eq_getElem?_getD,hJ v hv]
    exact ⟨.inl,fun h => h.resolve_right (by omega)⟩
  have hso : 0 < i → ltM l ((Ord l).getD i 0) ((Ord l).getD (i - 1) 0) = false := fun h0 => by
   have := ord_sorted l
   rw [List.pairwise_iff_getElem] at this
   have := this (i - 1) i (by omega) (by omega) (by omega)
   rw [List.getD_eq_getElem?_getD,List.getD_eq_getElem?_getD,List.getElem?_eq_getElem (by omega),List.getElem?_eq_getElem (by omega)]
   exact this
  have ep : 0 < i → w64 ((i:Int) - 1) = ((i - 1:Nat):Int) := fun h => by rw [w64_id (by omega) (by omega)]; omega
  have ec : w64 ((i:Int) + 1) = ((i + 1:Nat):Int) := cntI hi (by omega)
  have hz : ∀ x : Int,(List.getD l (Int.toNat x) ([],([],((0:Int),(0:Int))))).2.2.2 = hM l x ∧ (List.getD l (Int.toNat x) ([],([],((0:Int),(0:Int))))).2.2.1 = wM l x := fun x => ⟨rfl,rfl⟩
  refine ⟨?_,.inl ⟨(Ord l,(b.set ((Ord l).getD i 0).toNat true,((i + 1:Nat):Int))),?_,_,rfl,hnew⟩⟩
  ·unfold lawOrd_l0_pre letP
   intro _
   dsimp only
   rw [Int.toNat_natCast,hlo,hb]
   refine ⟨by omega,hi,hi,fun _ => ⟨by omega,hi,hi,fun _ => ⟨by omega,hi,hi,by omega,by omega,by omega,fun _ => ⟨by omega,hi,hi,by omega,by omega,by omega,fun h0 => ?_⟩⟩⟩⟩
   have h0 : 0 < i := by
    rcases Nat.eq_zero_or_pos i with z | z
    ·exfalso; apply h0; rw [z]; rfl
    ·exact z
   have hg' := ord_get l (k := i - 1) (by omega)
   rw [ep h0,Int.toNat_natCast]
   refine ⟨by omega,by omega,by omega,by omega,by omega,by omega,by omega,hi,hi,by omega,by omega,by omega,fun _ => ⟨fun _ _ _ _ => ?_,fun _ _ _ => ?_⟩⟩
   all_goals exact ⟨by omega,by omega,by omega,by omega,hi,hi⟩
  ·unfold lawOrd_l0_step letV
   dsimp only
   rw [Int.toNat_natCast,hlo,if_pos (by omega),if_neg (by omega),if_neg (by omega),if_neg (by rw [hns]; decide),ec]
   by_cases h0 : 0 < i
   ·have hg' := ord_get l (k := i - 1) (by omega)
    have hs := hso h0
    rw [ltM_f] at hs
    rw [if_neg (by simp; omega),ep h0,Int.toNat_natCast]
    rw [(hz _).1,(hz _).1,(hz _).2,(hz _).2]
    rw [if_neg (by omega)]
    by_cases e1 : hM l ((Ord l).getD (i - 1) 0) = hM l ((Ord l).getD i 0)
    ·have b1 : (hM l ((Ord l).getD (i - 1) 0) == hM l ((Ord l).getD i 0)) = true := beq_iff_eq.2 e1
     rw [if_pos b1,if_neg (by omega),if_pos b1]
     by_cases e2 : wM l ((Ord l).getD (i - 1) 0) = wM l ((Ord l).getD i 0)
     ·rw [if_pos (beq_iff_eq.2 e2),if_neg (by omega)]
     ·rw [if_neg (fun q => e2 (beq_iff_eq.1 q))]
    ·have b1 : ¬ (hM l ((Ord l).getD (i - 1) 0) == hM l ((Ord l).getD i 0)) = true := fun q => e1 (beq_iff_eq.1 q)
     rw [if_neg b1,if_neg b1]
   ·have : i = 0 := by omega
    subst this
    rw [if_pos (by rfl)]
 ·obtain ⟨b,rfl,hb,hJ⟩ := hj
  refine ⟨?_,_,?_,rfl⟩
  ·unfold lawOrd_l0_pre
   intro q
   dsimp only at q; omega
  ·unfold lawOrd_l0_step
   dsimp only
   rw [if_neg (by omega)]
 ·rw [List.getD_eq_getElem?_getD,List.getElem?_replicate,if_pos hv]; simp
theorem ord_pre (l : Pts) : lawOrd_pre l := by
  obtain ⟨m1, m2⟩ := mapped_law false
  unfold lawOrd_pre
  intro h30
  have hl : l.length ≤ 30 := by omega
  obtain ⟨o1, o2⟩ := order_law l (by have : 30 ≤ most := by decide
                                     omega)
  refine ⟨o1, letP_i fun _ => ⟨⟨Int.le_refl _, by omega⟩, ?_⟩⟩
  rw [o2]
  have key := ord_loop l hl
  exact ⟨key.1, letP_i (cS_r key.2 m1)⟩
theorem ord_val (l : Pts) : lawOrd l = true := by
  obtain ⟨m1, m2⟩ := mapped_law false
  unfold lawOrd
  rw [m2]
  unfold letV
  dsimp only
  by_cases h30 : ((l.length : Nat) : Int) > 30
  · rw [if_pos h30]
  rw [if_neg h30]
  have hl : l.length ≤ 30 := by omega
  obtain ⟨o1, o2⟩ := order_law l (by have : 30 ≤ most := by decide
                                     omega)
  have hlo := ord_len l
  rw [o2, if_neg (by simp; omega), (ord_loop l hl).2]
  rfl
theorem order_holds (l : Pts) : lawOrd_pre l ∧ lawOrd l = true := ⟨ord_pre l,ord_val l⟩
end Go.Proofs.Ytbjfokijjefoeaa
