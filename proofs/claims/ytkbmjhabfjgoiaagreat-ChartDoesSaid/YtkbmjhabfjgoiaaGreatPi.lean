/- Plain laws: what 'grow' comes to. -/
import Derived.Test.YtkbmjhabfjgoiaaGreatPp
noncomputable section
set_option linter.unusedSectionVars false
set_option linter.unusedVariables false
set_option linter.unusedSimpArgs false
namespace Go.Proofs.YtkbmjhabfjgoiaaGreat
open Go Go.Ev Go.Proofs
abbrev Chr : Type := Int × (Int × List Int)
abbrev cw (c : Chr) : P2 := (c.1,c.2.1)
def Good (m : Msh) (w : P2) (l : List Int) : Prop := ∀ k,k < l.length → FitsP m w (l.take k) (l.getD k 0)
theorem good_nil (m : Msh) (w : P2) : Good m w [] := fun k h => by simp at h
theorem good_snoc {m : Msh} {w : P2} {l : List Int} {i : Int} (h : Good m w l) (hi : FitsP m w l i) : Good m w (l ++ [i]) := fun k hk => by
 rcases Nat.lt_or_ge k l.length with h1 | h1
 ·rw [List.take_append_of_le_length (by omega),show (l ++ [i]).getD k 0 = l.getD k 0 by rw [List.getD_eq_getElem?_getD,List.getD_eq_getElem?_getD,List.getElem?_append_left h1]]
  exact h k h1
 ·have : k = l.length := by simp at hk; omega
  subst this
  rw [List.take_left,show (l ++ [i]).getD l.length 0 = i by rw [List.getD_eq_getElem?_getD,List.getElem?_append_right (Nat.le_refl _),Nat.sub_self]; rfl]
  exact hi
theorem findI_cases (l : List Int) (f : Int → Bool) : (findI l f = -1 ∧ ∀ x ∈ l,f x = false) ∨ ∃ i : Nat,findI l f = i ∧ i < l.length ∧ f (l.getD i 0) = true := by
 unfold findI
 cases h : l.findIdx? f with
 | none =>
  rw [List.findIdx?_eq_none_iff] at h
  exact .inl ⟨rfl,h⟩
 | some i =>
  rw [List.findIdx?_eq_some_iff_getElem] at h
  obtain ⟨h1,h2,_⟩ := h
  exact .inr ⟨i,rfl,h1,by rw [List.getD_eq_getElem?_getD,List.getElem?_eq_getElem h1]; exact h2⟩
theorem delZ_erase (l : List Int) (i:Nat) : delZ l i ((i + 1:Nat):Int) = l.eraseIdx i := by
 unfold delZ
 rw [Int.toNat_natCast,Int.toNat_natCast,List.eraseIdx_eq_take_drop_succ]
theorem erase_perm {l : List Int} {i : Nat} (h : i < l.length) : (l.getD i 0 :: l.eraseIdx i).Perm l := by
 have e : l = l.take i ++ l.getD i 0 :: l.drop (i + 1) := by
  rw [List.getD_eq_getElem?_getD,List.getElem?_eq_getElem h,Option.getD_some,← List.drop_eq_getElem_cons h,List.take_append_drop]
 rw [List.eraseIdx_eq_take_drop_succ]
 exact (List.perm_middle.symm.trans (List.Perm.of_eq e.symm))
structure Inn (m : Msh) (w : P2) (F free tris : List Int) : Prop where
 perm : (tris ++ free).Perm F
 sub : free.Sublist F
 good : Good m w tris
 hd : (tris = [] ∧ free = F) ∨ (tris ≠ [] ∧ tris.headD 0 = F.headD 0)
def AllF (m : Msh) (F : List Int) : Prop := ∀ i ∈ F,Way m i = ((Way m i).1,true)
theorem grow_in {m : Msh} (hm : tameB m = true) {F : List Int} (hF : AllF m F) (hl : F.length ≤ 500) (h0 : F ≠ []) (out : List Chr) (w : P2) (hw : Way m (F.headD 0) = (w,true)) :
  TR (cgrow_l4_step m) (cgrow_l4_pre m) (F,(out,(w.1,(w.2,(w.1,(w.2,([],0))))))) (fun r => ∃ free tris,r = (free,(out,(w.1,(w.2,(w.1,(w.2,tris)))))) ∧ Inn m w F free tris ∧ tris ≠ [] ∧ ∀ i ∈ free,¬ FitsP m w tris i) := by
 have hn := (mesh_len (tame_mesh hm)).2.2.2
 have hp0 : 0 < F.length := List.length_pos_iff.2 h0
 have hF0 : F.headD 0 = F.getD 0 0 := by cases F with | nil => rfl | cons a r => rfl
 refine TR.inv (fun s => ∃ (free tris : List Int) (at':Int),s = (free,(out,(w.1,(w.2,(w.1,(w.2,(tris,at'))))))) ∧ Inn m w F free tris ∧ ((at' = -1 ∧ tris ≠ [] ∧ ∀ i ∈ free,¬ FitsP m w tris i) ∨ ∃ k : Nat,at' = k ∧ k < free.length ∧ FitsP m w tris (free.getD k 0) ∧ (tris = [] → k = 0))) (fun s => s.1.length) (fun s ⟨free,tris,at',e,hI,ha⟩ => ?_) ⟨F,[],0,rfl,⟨List.Perm.refl _,List.Sublist.refl _,good_nil _ _,.inl ⟨rfl,rfl⟩⟩,.inr ⟨0,rfl,hp0,by rw [← hF0]; exact ⟨hw,by simp,fun k h => by simp at h,.inl rfl⟩,fun _ => rfl⟩⟩
 subst e
 have hlen := hI.perm.length_eq
 rw [List.length_append] at hlen
 rcases ha with ⟨rfl,ht,hno⟩ | ⟨k,rfl,hk,hfit,hk0⟩
 ·refine ⟨?_,fun s' h => ?_,fun r h => ?_⟩
  ·unfold cgrow_l4_pre
   dsimp only
   intro h; omega
  ·unfold cgrow_l4_step at h
   dsimp only at h
   rw [if_neg (by omega)] at h
   cases h
  ·unfold cgrow_l4_step at h
   dsimp only at h
   rw [if_neg (by omega)] at h
   cases h
   exact ⟨free,tris,rfl,hI,ht,hno⟩
 ·have ek : w64 ((k:Int) + 1) = ((k + 1:Nat):Int) := cnt (n := 500) (by omega) (by omega)
  have hmem : ∀ i,i ∈ free.eraseIdx k → i ∈ F := fun i hi => hI.sub.subset ((List.eraseIdx_sublist free k).subset hi)
  have hmem2 : ∀ i,i ∈ tris ++ [free.getD k 0] → i ∈ F := fun i hi => by
   rw [List.mem_append,List.mem_singleton] at hi
   rcases hi with hi | rfl
   ·exact hI.perm.subset (List.mem_append_left _ hi)
   ·exact hI.sub.subset (getD_in hk 0)
  have hHas : ∀ i,i ∈ F → Has m i := fun i hi => (way_has (hF i hi)).1
  have hx := fun i (hi : i ∈ free.eraseIdx k) => pfits_law hm (w := w) (l := tris ++ [free.getD k 0]) (by rw [List.length_append,List.length_singleton]; omega) (fun j hj => hHas j (hmem2 j hj)) (hHas i (hmem i hi))
  have hidx := indexF_law (free.eraseIdx k) (by have := (List.eraseIdx_sublist free k).length_le; omega) (m,(w,tris ++ [free.getD k 0])) fun i hi => (hx i hi).1
  have hst : cgrow_l4_step m (free,(out,(w.1,(w.2,(w.1,(w.2,(tris,(k:Int)))))))) = .inl (free.eraseIdx k,(out,(w.1,(w.2,(w.1,(w.2,(tris ++ [free.getD k 0],findI (free.eraseIdx k) fun i => pfits ((m,(w,tris ++ [free.getD k 0])),i)))))))) := by
   unfold cgrow_l4_step
   dsimp only [letV]
   rw [if_pos (by omega),ek,Int.toNat_natCast,delZ_erase]
   rw [show indexF (free.eraseIdx k,(m,((w.1,w.2),tris ++ [free.getD k 0]))) = _ from hidx.2]
  refine ⟨?_,fun s' h => ?_,fun r h => ?_⟩
  ·unfold cgrow_l4_pre
   dsimp only [letP]
   intro _
   rw [ek,Int.toNat_natCast,delZ_erase]
   exact ⟨⟨by omega,by omega⟩,hk,hk,by omega,⟨by omega,by omega,by omega⟩,hidx.1⟩
  ·rw [hst] at h
   cases h
   refine ⟨⟨_,_,_,rfl,⟨?_,(List.eraseIdx_sublist free k).trans hI.sub,good_snoc hI.good hfit,.inr ⟨by simp,?_⟩⟩,?_⟩,?_⟩
   ·rw [List.append_assoc,List.singleton_append]
    exact (List.Perm.append_left _ (erase_perm hk)).trans hI.perm
   ·rcases hI.hd with ⟨h1,h2⟩ | ⟨h1,h2⟩
    ·subst h1 h2
     rw [hk0 rfl,hF0]; rfl
    ·cases tris with
     | nil => exact absurd rfl h1
     | cons a r => exact h2
   ·rcases findI_cases (free.eraseIdx k) (fun i => pfits ((m,(w,tris ++ [free.getD k 0])),i)) with ⟨h1,h2⟩ | ⟨j,h1,h2,h3⟩
    ·refine .inl ⟨h1,by simp,fun i hi hf => ?_⟩
     have := (hx i hi).2.2 hf
     rw [h2 i hi] at this; cases this
    ·exact .inr ⟨j,h1,h2,(hx _ (getD_in h2 0)).2.1 h3,fun e => by simp at e⟩
   ·show (free.eraseIdx k).length < free.length
    rw [List.length_eraseIdx_of_lt hk]; omega
  ·rw [hst] at h; cases h
end Go.Proofs.YtkbmjhabfjgoiaaGreat

namespace Go.Proofs.YtkbmjhabfjgoiaaGreat
open Go Go.Ev Go.Proofs
structure Grown (m : Msh) (F0 free : List Int) (out : List Chr) : Prop where
 perm : (out.flatMap (·.2.2) ++ free).Perm F0
 sub : free.Sublist F0
 good : ∀ c ∈ out,c.2.2 ≠ [] ∧ Good m (cw c) c.2.2
 full : out.Pairwise fun c d => ∀ i ∈ d.2.2,¬ FitsP m (cw c) c.2.2 i
 fulf : ∀ c ∈ out,∀ i ∈ free,¬ FitsP m (cw c) c.2.2 i
 rise : out.Pairwise fun c d => ∀ i ∈ d.2.2,c.2.2.headD 0 < i
 risf : ∀ c ∈ out,∀ i ∈ free,c.2.2.headD 0 < i
 ins : ∀ c ∈ out,∀ i ∈ c.2.2,c.2.2.headD 0 ≤ i
 len : out.length + free.length ≤ F0.length
def Free0 (m : Msh) : List Int := ((List.range m.2.2.2.length).map fun k : Nat => (k:Int)).filter fun i => (Way m i).2
theorem mem_free0 {m : Msh} {i : Int} : i ∈ Free0 m ↔ (Way m i).2 = true := by
 unfold Free0
 rw [List.mem_filter,List.mem_map]
 constructor
 ·exact fun h => h.2
 ·intro h
  have hh := (way_has (way_some.1 h)).1
  exact ⟨⟨i.toNat,List.mem_range.2 (by omega),by omega⟩,h⟩
theorem free0_all (m : Msh) : AllF m (Free0 m) := fun i hi => way_some.1 (mem_free0.1 hi)
theorem free0_sorted (m : Msh) : (Free0 m).Pairwise (· < ·) := by
 unfold Free0
 refine List.Pairwise.filter _ ?_
 rw [List.pairwise_map]
 exact List.pairwise_lt_range.imp fun h => by omega
theorem free0_len (m : Msh) : (Free0 m).length ≤ m.2.2.2.length := by
 unfold Free0
 refine Nat.le_trans (List.length_filter_le _ _) ?_
 simp
theorem sorted_head {F : List Int} (h : F.Pairwise (· < ·)) {i : Int} (hi : i ∈ F) : i = F.headD 0 ∨ F.headD 0 < i := by
 cases F with
 | nil => simp at hi
 | cons a r =>
  rw [List.pairwise_cons] at h
  rcases List.mem_cons.1 hi with rfl | hi
  ·exact .inl rfl
  ·exact .inr (h.1 i hi)
theorem headD_mem {l : List Int} (h : l ≠ []) : l.headD 0 ∈ l := by
 cases l with
 | nil => exact absurd rfl h
 | cons a r => simp
theorem Grown.step {m : Msh} {F0 F free tris : List Int} {out : List Chr} {w : P2} (hs : F0.Pairwise (· < ·)) (h : Grown m F0 F out) (hI : Inn m w F free tris) (ht : tris ≠ []) (hno : ∀ i ∈ free,¬ FitsP m w tris i) : Grown m F0 free (out ++ [(w.1,(w.2,tris))]) := by
 have hF := hs.sublist h.sub
 have hin : ∀ i,i ∈ tris → i ∈ F := fun i hi => hI.perm.subset (List.mem_append_left _ hi)
 have hinf : ∀ i,i ∈ free → i ∈ F := fun i hi => hI.sub.subset hi
 have hhd : tris.headD 0 = F.headD 0 := by
  rcases hI.hd with ⟨h1,_⟩ | ⟨_,h2⟩
  ·exact absurd h1 ht
  ·exact h2
 have hnd : (tris ++ free).Nodup := hI.perm.nodup_iff.2 (hF.imp fun h => by omega)
 have hlen := hI.perm.length_eq
 rw [List.length_append] at hlen
 have hpos : 0 < tris.length := List.length_pos_iff.2 ht
 have hl := h.len
 have hc : ∀ c,c ∈ out ++ [(w.1,(w.2,tris))] → c ∈ out ∨ c = (w.1,(w.2,tris)) := fun c hc => by
  rwa [List.mem_append,List.mem_singleton] at hc
 refine ⟨?_,hI.sub.trans h.sub,fun c hc' => ?_,?_,fun c hc' i hi => ?_,?_,fun c hc' i hi => ?_,fun c hc' i hi => ?_,?_⟩
 ·rw [List.flatMap_append,List.append_assoc]
  refine (List.Perm.append_left _ ?_).trans h.perm
  simpa using hI.perm
 ·rcases hc c hc' with h1 | rfl
  ·exact h.good c h1
  ·exact ⟨ht,hI.good⟩
 ·rw [List.pairwise_append]
  refine ⟨h.full,by simp,fun c h1 d h2 i hi => ?_⟩
  rw [List.mem_singleton] at h2
  subst h2
  exact h.fulf c h1 i (hin i hi)
 ·rcases hc c hc' with h1 | rfl
  ·exact h.fulf c h1 i (hinf i hi)
  ·exact hno i hi
 ·rw [List.pairwise_append]
  refine ⟨h.rise,by simp,fun c h1 d h2 i hi => ?_⟩
  rw [List.mem_singleton] at h2
  subst h2
  exact h.risf c h1 i (hin i hi)
 ·rcases hc c hc' with h1 | rfl
  ·exact h.risf c h1 i (hinf i hi)
  ·show tris.headD 0 < i
   rcases sorted_head hF (hinf i hi) with h1 | h1
   ·rw [List.nodup_append] at hnd
    exact absurd (h1.trans hhd.symm).symm (hnd.2.2 _ (headD_mem ht) _ hi)
   ·rw [hhd]; exact h1
 ·rcases hc c hc' with h1 | rfl
  ·exact h.ins c h1 i hi
  ·show tris.headD 0 ≤ i
   rcases sorted_head hF (hin i hi) with h1 | h1
   ·rw [hhd,h1]; exact Int.le_refl _
   ·rw [hhd]; omega
 ·rw [List.length_append,List.length_singleton]; omega
theorem grow_free {m : Msh} (hm : tameB m = true) : TR (cgrow_l0_step m) (cgrow_l0_pre m) ([],0) (fun r => r = Free0 m) := by
 have hn := (mesh_len (tame_mesh hm)).2.2.2
 refine for_loop m.2.2.2.length (fun i s => s = (((List.range i).map fun k : Nat => (k:Int)).filter fun i => (Way m i).2,(i:Int))) _ (fun i s hi e => ?_) (fun s e => ?_) rfl
 ·subst e
  obtain ⟨h1,h2⟩ := bway_law hm (i:Int)
  have hlen : (((List.range i).map fun k : Nat => (k:Int)).filter fun i => (Way m i).2).length ≤ i := Nat.le_trans (List.length_filter_le _ _) (by simp)
  constructor
  ·unfold cgrow_l0_pre
   dsimp only [letP]
   intro _
   exact ⟨h1,fun _ => by omega⟩
  ·refine .inl ?_
   unfold cgrow_l0_step
   dsimp only [letV]
   rw [if_pos (by omega),h2,cnt (n := 500) (by omega) (by omega),List.range_succ,List.map_append,List.filter_append]
   cases e : (Way m (i:Int)).2 with
   | true =>
    rw [if_pos rfl]
    exact ⟨_,rfl,by simp [e]⟩
   | false =>
    rw [if_neg (by decide)]
    exact ⟨_,rfl,by simp [e]⟩
 ·subst e
  constructor
  ·unfold cgrow_l0_pre
   dsimp only
   intro h; omega
  ·unfold cgrow_l0_step
   dsimp only
   rw [if_neg (by omega)]
   exact ⟨_,rfl,rfl⟩
theorem grow_out {m : Msh} (hm : tameB m = true) : TR (cgrow_l2_step m) (cgrow_l2_pre m) (Free0 m,[]) (fun r => Grown m (Free0 m) [] r) := by
 have hn := (mesh_len (tame_mesh hm)).2.2.2
 have hf := free0_len m
 refine TR.inv (fun s => Grown m (Free0 m) s.1 s.2) (fun s => s.1.length) (fun s hG => ?_) ⟨by simp,List.Sublist.refl _,by simp,by simp,by simp,by simp,by simp,by simp,by simp⟩
 obtain ⟨F,out⟩ := s
 have hG : Grown m (Free0 m) F out := hG
 have hsub := hG.sub.length_le
 cases F with
 | nil =>
  refine ⟨?_,fun s' h => ?_,fun r h => ?_⟩
  ·unfold cgrow_l2_pre
   dsimp only
   intro h; simp at h
  ·unfold cgrow_l2_step at h
   dsimp only at h
   rw [if_neg (by simp)] at h
   cases h
  ·unfold cgrow_l2_step at h
   dsimp only at h
   rw [if_neg (by simp)] at h
   cases h
   exact hG
 | cons a F =>
  have hA : AllF m (a :: F) := fun i hi => free0_all m i (hG.sub.subset hi)
  have ha : Way m a = ((Way m a).1,true) := hA a (by simp)
  obtain ⟨h1,h2⟩ := bway_law hm a
  have hin := grow_in hm hA (by omega) (by simp) out (Way m a).1 ha
  obtain ⟨free,tris,g1,g2,g3,g4⟩ := hin.2
  have hl := hG.len
  have hlen := g2.perm.length_eq
  have hpos : 0 < tris.length := List.length_pos_iff.2 g3
  rw [List.length_append] at hlen
  have hst : cgrow_l2_step m (a :: F,out) = .inl (free,out ++ [((Way m a).1.1,((Way m a).1.2,tris))]) := by
   unfold cgrow_l2_step
   dsimp only [letV]
   rw [if_pos (by simp),show (a :: F).getD 0 0 = a from rfl,h2,g1]
  refine ⟨?_,fun s' h => ?_,fun r h => ?_⟩
  ·unfold cgrow_l2_pre
   dsimp only [letP]
   intro _
   rw [show (a :: F).getD 0 0 = a from rfl,h2,g1]
   refine ⟨by simp,by simp,by simp,h1,hin.1,?_⟩
   dsimp only
   omega
  ·rw [hst] at h
   cases h
   refine ⟨hG.step (free0_sorted m) g2 g3 g4,?_⟩
   show free.length < (a :: F).length
   omega
  ·rw [hst] at h; cases h
theorem cgrow_law (m : Msh) : cgrow_pre m ∧ (tameB m = true → (cgrow m).2 = 0 ∧ Grown m (Free0 m) [] (cgrow m).1) ∧ (tameB m = false → cgrow m = ([],1)) := by
 unfold cgrow_pre cgrow
 dsimp only [letP,letV]
 rw [(tame_law m).2]
 refine ⟨⟨(tame_law m).1,fun h => ?_⟩,fun h => ?_,fun h => ?_⟩
 ·have h : tameB m = true := by simpa using h
  have h1 := grow_free h
  rw [h1.2]
  exact ⟨h1.1,(grow_out h).1⟩
 ·rw [h,if_neg (by decide),(grow_free h).2]
  exact ⟨rfl,(grow_out h).2⟩
 ·rw [h,if_pos (by decide)]
end Go.Proofs.YtkbmjhabfjgoiaaGreat

namespace Go.Proofs.YtkbmjhabfjgoiaaGreat
open Go Go.Ev Go.Proofs
abbrev zC : Chr := (0,(0,[]))
def Many (n:Nat) (L : List Int) : List Int := (List.range n).map fun k : Nat => ((L.count (k:Int):Nat):Int)
theorem many_len (n:Nat) (L : List Int) : (Many n L).length = n := by simp [Many]
theorem many_get {n k : Nat} (h : k < n) (L : List Int) : (Many n L).getD k 0 = ((L.count (k:Int):Nat):Int) := by
 rw [List.getD_eq_getElem?_getD,List.getElem?_eq_getElem (by rw [many_len]; exact h)]
 simp [Many]
theorem many_nil (n:Nat) : Many n [] = List.replicate n 0 := by
 unfold Many
 apply List.ext_getElem
 ·simp
 ·intro k h1 h2
  simp
theorem many_snoc {n : Nat} {L : List Int} {i : Int} (hi : 0 ≤ i ∧ i < (n:Int)) (hL : L.length ≤ 2000000) : (Many n L).set i.toNat (w64 ((Many n L).getD i.toNat 0 + 1)) = Many n (L ++ [i]) := by
 have hc := List.count_le_length (a := i) (l := L)
 rw [many_get (by omega),show ((i.toNat:Nat):Int) = i by omega,w64_id (by omega) (by omega)]
 apply List.ext_getElem
 ·simp [many_len]
 ·intro k h1 h2
  rw [many_len] at h2
  rw [List.getElem_set]
  unfold Many
  simp only [List.getElem_map,List.getElem_range,List.count_append,List.count_singleton]
  by_cases e : i.toNat = k
  ·subst e
   rw [if_pos rfl,show ((i.toNat:Nat):Int) = i by omega,if_pos (by simp)]
   rfl
  ·rw [if_neg e,if_neg (by simp; omega)]
   rfl
structure Okay (m : Msh) (l : List Chr) : Prop where
 good : ∀ c ∈ l,c.2.2 ≠ [] ∧ Good m (cw c) c.2.2
 small : ∀ c ∈ l,c.2.2.length ≤ 1000
 len : l.length ≤ 1000
theorem good_way {m : Msh} {w : P2} {l : List Int} (h : Good m w l) {i : Int} (hi : i ∈ l) : Way m i = (w,true) := by
 obtain ⟨k,hk,rfl⟩ := mem_getD hi 0
 exact (h k hk).way
theorem flat_len {l : List Chr} (h : ∀ c ∈ l,c.2.2.length ≤ 1000) : (l.flatMap (·.2.2)).length ≤ 1000 * l.length := by
 induction l with
 | nil => simp
 | cons a r ih =>
  rw [List.flatMap_cons,List.length_append,List.length_cons]
  have h1 := h a (by simp)
  have h2 := ih fun c hc => h c (by simp [hc])
  omega
theorem cis_in {m : Msh} (hm : tameB m = true) (l : List Chr) (c : Chr) (hg : Good m (cw c) c.2.2) (hs : c.2.2.length ≤ 1000) (L : List Int) (hL : L.length ≤ 1000000) (idx:Nat) :
  TR (cis_l2_step (m,l)) (cis_l2_pre (m,l)) (Many m.2.2.2.length L,(c.1,(c.2.1,(c.2.2,(c.1,(c.2.1,([],((idx:Int),((c.2.2.length:Int),0)))))))))
   (fun r => r = .inr (Many m.2.2.2.length (L ++ c.2.2),(c.1,(c.2.1,(c.2.2,(idx:Int)))))) := by
 have hn := (mesh_len (tame_mesh hm)).2.2.2
 refine for_loop c.2.2.length (fun j s => s = (Many m.2.2.2.length (L ++ c.2.2.take j),(c.1,(c.2.1,(c.2.2,(c.1,(c.2.1,(c.2.2.take j,((idx:Int),((c.2.2.length:Int),(j:Int))))))))))) _ (fun j s hj e => ?_) (fun s e => ?_) (by simp)
 ·subst e
  have hf := hg j hj
  have hh := (way_has hf.way).1
  obtain ⟨p1,p2⟩ := pfits_law hm (w := cw c) (l := c.2.2.take j) (by rw [List.length_take]; omega) (fun k hk => (way_has (good_way hg (List.mem_of_mem_take hk))).1) hh
  have hlt : (L ++ c.2.2.take j).length ≤ 2000000 := by rw [List.length_append,List.length_take]; omega
  constructor
  ·unfold cis_l2_pre
   dsimp only [letP]
   intro _
   simp only [many_len,Int.toNat_natCast]
   refine ⟨⟨by omega,by omega⟩,hj,hj,p1,fun _ => ⟨?_,hh,by omega,by omega,hh,by omega,by omega⟩⟩
   rw [List.length_take]; omega
  ·refine .inl ?_
   unfold cis_l2_step
   dsimp only [letV]
   rw [if_pos (by omega),Int.toNat_natCast,show pfits ((m,((c.1,c.2.1),c.2.2.take j)),c.2.2.getD j 0) = true from p2.2 hf,if_neg (by decide),many_snoc hh hlt,cnt (n := 1000) (by omega) (by omega)]
   refine ⟨_,rfl,?_⟩
   rw [take_snoc hj 0,List.append_assoc]
 ·subst e
  constructor
  ·unfold cis_l2_pre
   dsimp only
   intro h; omega
  ·unfold cis_l2_step
   dsimp only
   rw [if_neg (by omega),List.take_length]
   exact ⟨_,rfl,rfl⟩
theorem cis_out {m : Msh} (hm : tameB m = true) {l : List Chr} (h : Okay m l) : TR (cis_l0_step (m,l)) (cis_l0_pre (m,l)) (List.replicate m.2.2.2.length 0,0) (fun r => r = .inr (Many m.2.2.2.length (l.flatMap (·.2.2)))) := by
 have hll := h.len
 refine for_loop l.length (fun i s => s = (Many m.2.2.2.length ((l.take i).flatMap (·.2.2)),(i:Int))) _ (fun i s hi e => ?_) (fun s e => ?_) (by rw [← many_nil]; rfl)
 ·subst e
  have hc : l.getD i zC ∈ l := getD_in hi zC
  obtain ⟨hne,hg⟩ := h.good _ hc
  have hL := flat_len (l := l.take i) fun c hc => h.small c (List.mem_of_mem_take hc)
  have hin := cis_in hm l (l.getD i zC) hg (h.small _ hc) ((l.take i).flatMap (·.2.2)) (by rw [List.length_take] at hL; omega) i
  constructor
  ·unfold cis_l0_pre
   dsimp only
   intro _
   rw [Int.toNat_natCast]
   exact ⟨⟨by omega,by omega⟩,hi,hi,hin.1⟩
  ·refine .inl ?_
   unfold cis_l0_step
   dsimp only [letV]
   rw [if_pos (by omega),Int.toNat_natCast,hin.2]
   dsimp only [Sum.elim]
   rw [if_neg (by simpa using hne),cnt (n := 1000) (by omega) (by omega)]
   refine ⟨_,rfl,?_⟩
   rw [take_snoc hi zC,List.flatMap_append]
   simp
 ·subst e
  constructor
  ·unfold cis_l0_pre
   dsimp only
   intro h; omega
  ·unfold cis_l0_step
   dsimp only
   rw [if_neg (by omega),List.take_length]
   exact ⟨_,rfl,rfl⟩
theorem cis_all {m : Msh} (hm : tameB m = true) (l : List Chr) (L : List Int) : TR (cis_l4_step (m,l)) (cis_l4_pre (m,l)) (Many m.2.2.2.length L,((((Many m.2.2.2.length L).length:Nat):Int),0))
  (fun r => (r = .inr () ∧ ∀ k : Nat,k < m.2.2.2.length → (Way m k).2 = true → L.count (k:Int) = 1) ∨ (r = .inl () ∧ ∃ k : Nat,k < m.2.2.2.length ∧ (Way m k).2 = true ∧ L.count (k:Int) ≠ 1)) := by
 have hn := (mesh_len (tame_mesh hm)).2.2.2
 rw [many_len]
 refine for_loop m.2.2.2.length (fun i s => s = (Many m.2.2.2.length L,((m.2.2.2.length:Int),(i:Int))) ∧ ∀ k : Nat,k < i → (Way m k).2 = true → L.count (k:Int) = 1) _ (fun i s hi ⟨e,hb⟩ => ?_) (fun s ⟨e,hb⟩ => ?_) ⟨rfl,fun k hk => absurd hk (Nat.not_lt_zero _)⟩
 ·subst e
  obtain ⟨h1,h2⟩ := bway_law hm (i:Int)
  have hnext : ((Way m i).2 = true → L.count (i:Int) = 1) → ∀ k : Nat,k < i + 1 → (Way m k).2 = true → L.count (k:Int) = 1 := fun hh k hk hw => by
   rcases Nat.lt_or_ge k i with h3 | h3
   ·exact hb k h3 hw
   ·have : k = i := by omega
    subst this
    exact hh hw
  constructor
  ·unfold cis_l4_pre
   dsimp only
   intro _
   rw [many_len,Int.toNat_natCast]
   exact ⟨⟨by omega,by omega⟩,hi,hi,h1⟩
  ·unfold cis_l4_step
   dsimp only [letV]
   rw [if_pos (by omega),h2,Int.toNat_natCast,many_get hi,cnt (n := 500) (by omega) (by omega)]
   cases hw : (Way m (i:Int)).2 with
   | false =>
    rw [if_neg (by decide)]
    exact .inl ⟨_,rfl,rfl,hnext fun h => by rw [hw] at h; cases h⟩
   | true =>
    rw [if_pos rfl]
    by_cases hc : L.count (i:Int) = 1
    ·rw [if_neg (by rw [hc]; decide)]
     exact .inl ⟨_,rfl,rfl,hnext fun _ => hc⟩
    ·rw [if_pos (by simp; omega)]
     exact .inr ⟨_,rfl,.inr ⟨rfl,i,hi,hw,hc⟩⟩
 ·obtain rfl := e
  constructor
  ·unfold cis_l4_pre
   dsimp only
   intro h; omega
  ·unfold cis_l4_step
   dsimp only
   rw [if_neg (by omega)]
   exact ⟨_,rfl,.inl ⟨rfl,hb⟩⟩
theorem cis_law {m : Msh} (hm : tameB m = true) {l : List Chr} (h : Okay m l) : cis_pre (m,l) ∧ (cis (m,l) = true ↔ ∀ k : Nat,k < m.2.2.2.length → (Way m k).2 = true → (l.flatMap (·.2.2)).count (k:Int) = 1) := by
 have hn := (mesh_len (tame_mesh hm)).2.2.2
 obtain ⟨o1,o2⟩ := cis_out hm h
 have ha := cis_all hm l (l.flatMap (·.2.2))
 unfold cis_pre cis
 dsimp only [letP,letV]
 rw [(tame_law m).2,hm,if_neg (by decide),o2]
 refine ⟨⟨(tame_law m).1,fun _ => ⟨⟨by omega,by omega⟩,o1,ha.1⟩⟩,?_⟩
 dsimp only [Sum.elim]
 rcases ha.2 with ⟨h1,h2⟩ | ⟨h1,k,h2,h3,h4⟩
 ·rw [h1]
  exact ⟨fun _ => h2,fun _ => rfl⟩
 ·rw [h1]
  exact ⟨fun h => (by cases h),fun h => absurd (h k h2 h3) h4⟩
theorem Grown.okay {m : Msh} (hm : tameB m = true) {out : List Chr} (h : Grown m (Free0 m) [] out) : Okay m out := by
 have hn := (mesh_len (tame_mesh hm)).2.2.2
 have hf := free0_len m
 have hl := h.len
 have hp := h.perm.length_eq
 rw [List.append_nil] at hp
 refine ⟨h.good,fun c hc => ?_,by simp at hl; omega⟩
 have : c.2.2.length ≤ (out.flatMap (·.2.2)).length := by
  obtain ⟨s,t,rfl⟩ := List.append_of_mem hc
  rw [List.flatMap_append,List.flatMap_cons,List.length_append,List.length_append]; omega
 omega
theorem Grown.count {m : Msh} {out : List Chr} (h : Grown m (Free0 m) [] out) (k:Int) : (out.flatMap (·.2.2)).count k = if (Way m k).2 = true then 1 else 0 := by
 have hp := h.perm
 rw [List.append_nil] at hp
 rw [hp.count_eq]
 have hnd : (Free0 m).Nodup := (free0_sorted m).imp fun h => by omega
 split
 ·rename_i hw
  have h1 := List.nodup_iff_count.1 hnd k
  have h2 := List.count_pos_iff.2 (mem_free0.2 hw)
  omega
 ·rename_i hw
  exact List.count_eq_zero.2 fun hk => hw (mem_free0.1 hk)
theorem Grown.is {m : Msh} (hm : tameB m = true) {out : List Chr} (h : Grown m (Free0 m) [] out) : cis_pre (m,out) ∧ cis (m,out) = true := by
 obtain ⟨h1,h2⟩ := cis_law hm (h.okay hm)
 exact ⟨h1,h2.2 fun k _ hw => by rw [h.count,if_pos hw]⟩
end Go.Proofs.YtkbmjhabfjgoiaaGreat
