/- Plain laws: pieces. -/
import Derived.Test.YtpbbnoggkbfkoaaPn
noncomputable section
set_option linter.unusedSectionVars false
set_option linter.unusedVariables false
set_option linter.unusedSimpArgs false
namespace Go.Proofs.Ytpbbnoggkbfkoaa
open Go Go.Ev Go.Proofs
theorem tame_mesh {m : Msh} (h : tameB m = true) : meshB m = true := by
 unfold tameB at h
 simp only [Bool.and_eq_true] at h
 exact h.1
def Way (m : Msh) (i:Int) : P2 × Bool := if Has m i ∧ Nm m i ≠ (0,(0,0)) then ((Ax (Nm m i),sg (Cp (Nm m i) (Ax (Nm m i)))),true) else ((0,0),false)
theorem bway_law {m : Msh} (hm : tameB m = true) (i:Int) : bway_pre (m,i) ∧ bway (m,i) = Way m i := by
 unfold bway_pre bway
 dsimp only [letP,letV]
 rw [bhas_law,bpoints_law]
 by_cases h : Has m i
 ·refine ⟨fun _ => ⟨bpoints_tm hm h,sfacing_tm _⟩,?_⟩
  rw [decide_eq_true h,if_neg (by decide)]
  obtain ⟨n1,n2,n3⟩ := pts_near hm h
  rw [show Pts m i = ((Pts m i).1,((Pts m i).2.1,(Pts m i).2.2)) from rfl,sfacing_law,if_pos ⟨by omega,by omega,by omega⟩]
  unfold Way
  rw [show Nrm (Pts m i).1 (Pts m i).2.1 (Pts m i).2.2 = Nm m i from rfl]
  by_cases hz : Nm m i = (0,(0,0))
  ·rw [if_pos hz,if_neg (fun q => q.2 hz)]; rfl
  ·rw [if_neg hz,if_pos ⟨h,hz⟩]; rfl
 ·refine ⟨fun h2 => absurd (by rw [decide_eq_false h]; rfl) h2,?_⟩
  rw [decide_eq_false h,if_pos (by decide)]
  unfold Way
  rw [if_neg (fun q => h q.1)]
theorem way_has {m : Msh} {i : Int} {w : P2} (h : Way m i = (w,true)) : Has m i ∧ Nm m i ≠ (0,(0,0)) ∧ w = (Ax (Nm m i),sg (Cp (Nm m i) (Ax (Nm m i)))) := by
 unfold Way at h
 split at h
 ·rename_i h1
  simp only [Prod.mk.injEq,and_true] at h
  exact ⟨h1.1,h1.2,h.symm⟩
 ·simp at h
theorem way_ax {m : Msh} {i : Int} {w : P2} (h : Way m i = (w,true)) : 0 ≤ w.1 ∧ w.1 < 3 := by
 rw [(way_has h).2.2]; exact ax_in _
theorem way_some {m : Msh} {i : Int} : (Way m i).2 = true ↔ Way m i = ((Way m i).1,true) := by
 constructor
 ·intro h; rw [← h]
 ·intro h; rw [h]
abbrev Pc : Type := Msh × (P2 × List Int)
theorem plooks_law {m : Msh} (hm : tameB m = true) (w : P2) (l : List Int) (i:Int) : plooks_pre ((m,(w,l)),i) ∧ (plooks ((m,(w,l)),i) = true ↔ Way m i = (w,true)) := by
 unfold plooks_pre plooks
 dsimp only [letV]
 obtain ⟨h1,h2⟩ := bway_law hm i
 refine ⟨h1,?_⟩
 rw [h2]
 cases e : (Way m i).2 with
 | false =>
  simp only [Bool.false_eq_true,if_false,false_iff]
  intro h; rw [h] at e; cases e
 | true =>
  rw [if_pos rfl,way_some.1 e]
  simp only [Bool.and_true,Bool.and_eq_true,beq_iff_eq,Prod.mk.injEq,and_true]
  exact ⟨fun h => Prod.ext h.1 h.2,fun h => by rw [h]; exact ⟨rfl,rfl⟩⟩
theorem bshadow_law {m : Msh} (hm : tameB m = true) {i : Int} (h : Has m i) (ax:Int) : bshadow_pre (m,(i,ax)) ∧ (0 ≤ ax ∧ ax < 3 → bshadow (m,(i,ax)) = Shd m i ax) := by
 unfold bshadow_pre bshadow
 dsimp only [letP,letV]
 rw [bpoints_law]
 refine ⟨⟨bpoints_tm hm h,(vdrop_law _ _).1,(vdrop_law _ _).1,(vdrop_law _ _).1⟩,fun ha => ?_⟩
 rw [(vdrop_law _ _).2,(vdrop_law _ _).2,(vdrop_law _ _).2,if_pos ha,if_pos ha,if_pos ha]
 rfl
def stepI (l : List Int) (f : Int → Bool) (s:Int) : Int ⊕ (Int ⊕ Unit) := if s < ((l.length:Nat):Int) then (if f (l.getD s.toNat 0) = true then .inr (.inl s) else .inl (w64 (s + 1))) else .inr (.inr ())
def preI (l : List Int) (p : Int → Prop) (s:Int) : Prop := s < ((l.length:Nat):Int) → (0 ≤ s ∧ s < ((l.length:Nat):Int)) ∧ s.toNat < l.length ∧ s.toNat < l.length ∧ p (l.getD s.toNat 0)
def findI (l : List Int) (f : Int → Bool) : Int := match l.findIdx? f with | some i => (i:Int) | none => -1
theorem idx_law (l : List Int) (hl : l.length < 4611686018427387904) (f : Int → Bool) (p : Int → Prop) (h : ∀ k ∈ l,p k) : Term (stepI l f) (preI l p) 0 ∧ Sum.elim (fun a => a) (fun _ => -1) (run (stepI l f) 0) = findI l f :=
 index_loop l hl f _ _ (fun i hi => fun hlt => ⟨⟨by omega,hlt⟩,by omega,by omega,h _ (getD_in (by omega) 0)⟩) (fun i x hx => by
  have hlt := lt_of_get hx
  unfold stepI
  rw [if_pos (by omega),Int.toNat_natCast,getD_of hx]) (by
  unfold stepI
  rw [if_neg (by omega)])
theorem idx_any (l : List Int) (f : Int → Bool) : decide (findI l f ≥ 0) = l.any f := find_any l f
theorem containsI_law (l : List Int) (hl : l.length < 4611686018427387904) (v:Int) : containsI_pre (l,v) ∧ (containsI (l,v) = true ↔ v ∈ l) := by
 have hh := index_loop l hl (fun k => v == k) (indexI_l0_step (l,v)) (indexI_l0_pre (l,v)) (fun i hi => by
   unfold indexI_l0_pre
   intro h
   simp only [Int.toNat_natCast]; dsimp only at h ⊢; omega) (fun i x hx => by
   have hlt := lt_of_get hx
   unfold indexI_l0_step
   dsimp only
   rw [if_pos (by omega),Int.toNat_natCast,getD_of hx]) (by
   unfold indexI_l0_step
   dsimp only
   rw [if_neg (by omega)])
 refine ⟨hh.1,?_⟩
 unfold containsI indexI
 dsimp only [letV]
 rw [hh.2,find_any,List.any_eq_true]
 constructor
 ·rintro ⟨x,h1,h2⟩
  rw [beq_iff_eq.1 h2]; exact h1
 ·intro h; exact ⟨v,h,by simp⟩
theorem containsO_law (l : List Int) (hl : l.length < 4611686018427387904) (x : T2 × Pc) (h : ∀ k ∈ l,pover_pre (k,x)) : containsO_pre (l,x) ∧ containsO (l,x) = l.any fun k => pover (k,x) := by
 have hh := idx_law l hl (fun k => pover (k,x)) (fun k => pover_pre (k,x)) h
 refine ⟨hh.1,?_⟩
 rw [← idx_any,← hh.2]; rfl
theorem containsP_law (l : List Int) (hl : l.length < 4611686018427387904) (x : Pc) (h : ∀ k ∈ l,pnear_pre (k,x)) : containsP_pre (l,x) ∧ containsP (l,x) = l.any fun k => pnear (k,x) := by
 have hh := idx_law l hl (fun k => pnear (k,x)) (fun k => pnear_pre (k,x)) h
 refine ⟨hh.1,?_⟩
 rw [← idx_any,← hh.2]; rfl
theorem indexF_law (l : List Int) (hl : l.length < 4611686018427387904) (x : Pc) (h : ∀ k ∈ l,pfits_pre (x,k)) : indexF_pre (l,x) ∧ indexF (l,x) = findI l fun k => pfits (x,k) := by
 have hh := idx_law l hl (fun k => pfits (x,k)) (fun k => pfits_pre (x,k)) h
 refine ⟨hh.1,?_⟩
 rw [← hh.2]; rfl
def Over (m : Msh) (ax i k:Int) : Prop := (moverlap (Shd m i ax,Shd m k ax)).1 = true
structure FitsP (m : Msh) (w : P2) (l : List Int) (i:Int) : Prop where
 way : Way m i = (w,true)
 new : i ∉ l
 apart : ∀ k ∈ l,¬ Over m w.1 i k
 near : l = [] ∨ ∃ k ∈ l,Adj m i k
theorem pover_law {m : Msh} (hm : tameB m = true) {k : Int} (hk : Has m k) (s : T2) (w : P2) (l : List Int) : pover_pre (k,(s,(m,(w,l)))) ∧ (0 ≤ w.1 ∧ w.1 < 3 → pover (k,(s,(m,(w,l)))) = (moverlap (s,Shd m k w.1)).1) := by
 unfold pover_pre pover
 dsimp only [letP,letV]
 obtain ⟨h1,h2⟩ := bshadow_law hm hk w.1
 exact ⟨⟨h1,moverlap_tm _⟩,fun h => by rw [h2 h]⟩
theorem pfits_law {m : Msh} (hm : tameB m = true) {w : P2} {l : List Int} (hl : l.length ≤ 1000) (hk : ∀ k ∈ l,Has m k) {i : Int} (hi : Has m i) : pfits_pre ((m,(w,l)),i) ∧ (pfits ((m,(w,l)),i) = true ↔ FitsP m w l i) := by
 obtain ⟨a1,a2⟩ := plooks_law hm w l i
 obtain ⟨b1,b2⟩ := containsI_law l (by omega) i
 obtain ⟨c1,c2⟩ := bshadow_law hm hi w.1
 obtain ⟨d1,d2⟩ := containsO_law l (by omega) (bshadow (m,(i,w.1)),(m,(w,l))) fun k h => (pover_law hm (hk k h) _ w l).1
 obtain ⟨e1,e2,e3⟩ := enext_law (tame_mesh hm) hi
 have f0 : ∀ k,pnear_pre (k,(m,(w,l))) ∧ pnear (k,(m,(w,l))) = containsI (l,k) := fun k => ⟨(containsI_law l (by omega) k).1,rfl⟩
 obtain ⟨f1,f2⟩ := containsP_law (enext (m,i)).1 (by omega) (m,(w,l)) fun k _ => (f0 k).1
 constructor
 ·unfold pfits_pre
  dsimp only [letP]
  exact ⟨a1,fun _ => ⟨b1,fun _ => ⟨c1,d1,fun _ => ⟨e1,fun _ => f1⟩⟩⟩⟩
 ·unfold pfits
  dsimp only [letV]
  by_cases hw : Way m i = (w,true)
  rotate_left
  ·have : plooks ((m,(w,l)),i) = false := by
    cases h : plooks ((m,(w,l)),i) with
    | false => rfl
    | true => exact absurd (a2.1 h) hw
   rw [this,if_pos (by decide)]
   exact ⟨fun h => (by cases h),fun h => absurd h.way hw⟩
  have hax := way_ax hw
  rw [a2.2 hw,if_neg (by decide)]
  by_cases hn : i ∈ l
  ·rw [if_pos (b2.2 hn)]
   exact ⟨fun h => (by cases h),fun h => absurd hn h.new⟩
  rw [if_neg fun h => hn (b2.1 h),d2,c2 hax]
  have hO : ((l.any fun k => pover (k,(Shd m i w.1,(m,(w,l))))) = true) ↔ ∃ k ∈ l,Over m w.1 i k := by
   rw [List.any_eq_true]
   constructor
   ·rintro ⟨k,h1,h2⟩
    rw [(pover_law hm (hk k h1) _ w l).2 hax] at h2
    exact ⟨k,h1,h2⟩
   ·rintro ⟨k,h1,h2⟩
    exact ⟨k,h1,by rw [(pover_law hm (hk k h1) _ w l).2 hax]; exact h2⟩
  by_cases ho : ∃ k ∈ l,Over m w.1 i k
  ·rw [if_pos (hO.2 ho)]
   obtain ⟨k,h1,h2⟩ := ho
   exact ⟨fun h => (by cases h),fun h => absurd h2 (h.apart k h1)⟩
  rw [if_neg fun h => ho (hO.1 h)]
  have hap : ∀ k ∈ l,¬ Over m w.1 i k := fun k h1 h2 => ho ⟨k,h1,h2⟩
  by_cases h0 : l = []
  ·rw [if_pos (by rw [h0]; decide)]
   exact ⟨fun _ => ⟨hw,hn,hap,.inl h0⟩,fun _ => rfl⟩
  ·have hlen : l.length ≠ 0 := fun e => h0 (List.eq_nil_of_length_eq_zero e)
   rw [if_neg (by simpa using h0),f2,List.any_eq_true]
   constructor
   ·rintro ⟨k,h1,h2⟩
    rw [(f0 k).2] at h2
    exact ⟨hw,hn,hap,.inr ⟨k,(containsI_law l (by omega) k).2.1 h2,(e2 k).1 h1⟩⟩
   ·intro h
    rcases h.near with h1 | ⟨k,h1,h2⟩
    ·exact absurd h1 h0
    ·exact ⟨k,(e2 k).2 h2,by rw [(f0 k).2]; exact (containsI_law l (by omega) k).2.2 h1⟩
end Go.Proofs.Ytpbbnoggkbfkoaa

namespace Go.Proofs.Ytpbbnoggkbfkoaa
open Go Go.Ev Go.Proofs
abbrev Chr : Type := Int × (Int × List Int)
abbrev cw (c : Chr) : P2 := (c.1,c.2.1)
def Good (m : Msh) (w : P2) (l : List Int) : Prop := ∀ k,k < l.length → FitsP m w (l.take k) (l.getD k 0)
theorem good_nil (m : Msh) (w : P2) : Good m w [] := fun k h => by simp at h
theorem good_snoc {m : Msh} {w : P2} {l : List Int} {i : Int} (h : Good m w l) (hi : FitsP m w l i) : Good m w (l ++ [i]) := fun k hk => by
 rcases Nat.lt_or_ge k l.length with h1 | h1
 ·rw [List.take_append_of_le_length (by omega),show (l ++ [i]).getD k 0 = l.getD k 0 by rw [List.getD_eq_getElem?_getD,List.getD_eq_getElem?_getD,List.getElem?_append_left h1]]
  exact h k h1
 ·have : k = l.length := by simp at hk; omega
  subst this
  rw [List.take_left,show (l ++ [i]).getD l.length 0 = i by rw [List.getD_eq_getElem?_getD,List.getElem?_append_right (Nat.le_refl _),Nat.sub_self]; rfl]
  exact hi
theorem findI_cases (l : List Int) (f : Int → Bool) : (findI l f = -1 ∧ ∀ x ∈ l,f x = false) ∨ ∃ i : Nat,findI l f = i ∧ i < l.length ∧ f (l.getD i 0) = true := by
 unfold findI
 cases h : l.findIdx? f with
 | none =>
  rw [List.findIdx?_eq_none_iff] at h
  exact .inl ⟨rfl,h⟩
 | some i =>
  rw [List.findIdx?_eq_some_iff_getElem] at h
  obtain ⟨h1,h2,_⟩ := h
  exact .inr ⟨i,rfl,h1,by rw [List.getD_eq_getElem?_getD,List.getElem?_eq_getElem h1]; exact h2⟩
theorem delZ_erase (l : List Int) (i:Nat) : delZ l i ((i + 1:Nat):Int) = l.eraseIdx i := by
 unfold delZ
 rw [Int.toNat_natCast,Int.toNat_natCast,List.eraseIdx_eq_take_drop_succ]
theorem erase_perm {l : List Int} {i : Nat} (h : i < l.length) : (l.getD i 0 :: l.eraseIdx i).Perm l := by
 have e : l = l.take i ++ l.getD i 0 :: l.drop (i + 1) := by
  rw [List.getD_eq_getElem?_getD,List.getElem?_eq_getElem h,Option.getD_some,← List.drop_eq_getElem_cons h,List.take_append_drop]
 rw [List.eraseIdx_eq_take_drop_succ]
 exact (List.perm_middle.symm.trans (List.Perm.of_eq e.symm))
structure Inn (m : Msh) (w : P2) (F free tris : List Int) : Prop where
 perm : (tris ++ free).Perm F
 sub : free.Sublist F
 good : Good m w tris
 hd : (tris = [] ∧ free = F) ∨ (tris ≠ [] ∧ tris.headD 0 = F.headD 0)
def AllF (m : Msh) (F : List Int) : Prop := ∀ i ∈ F,Way m i = ((Way m i).1,true)
theorem grow_in {m : Msh} (hm : tameB m = true) {F : List Int} (hF : AllF m F) (hl : F.length ≤ 500) (h0 : F ≠ []) (out : List Chr) (w : P2) (hw : Way m (F.headD 0) = (w,true)) :
  TR (cgrow_l4_step m) (cgrow_l4_pre m) (F,(out,(w.1,(w.2,(w.1,(w.2,([],0))))))) (fun r => ∃ free tris,r = (free,(out,(w.1,(w.2,(w.1,(w.2,tris)))))) ∧ Inn m w F free tris ∧ tris ≠ [] ∧ ∀ i ∈ free,¬ FitsP m w tris i) := by
 have hn := (mesh_len (tame_mesh hm)).2.2.2
 have hp0 : 0 < F.length := List.length_pos_iff.2 h0
 have hF0 : F.headD 0 = F.getD 0 0 := by cases F with | nil => rfl | cons a r => rfl
 refine TR.inv (fun s => ∃ (free tris : List Int) (at':Int),s = (free,(out,(w.1,(w.2,(w.1,(w.2,(tris,at'))))))) ∧ Inn m w F free tris ∧ ((at' = -1 ∧ tris ≠ [] ∧ ∀ i ∈ free,¬ FitsP m w tris i) ∨ ∃ k : Nat,at' = k ∧ k < free.length ∧ FitsP m w tris (free.getD k 0) ∧ (tris = [] → k = 0))) (fun s => s.1.length) (fun s ⟨free,tris,at',e,hI,ha⟩ => ?_) ⟨F,[],0,rfl,⟨List.Perm.refl _,List.Sublist.refl _,good_nil _ _,.inl ⟨rfl,rfl⟩⟩,.inr ⟨0,rfl,hp0,by rw [← hF0]; exact ⟨hw,by simp,fun k h => by simp at h,.inl rfl⟩,fun _ => rfl⟩⟩
 subst e
 have hlen := hI.perm.length_eq
 rw [List.length_append] at hlen
 rcases ha with ⟨rfl,ht,hno⟩ | ⟨k,rfl,hk,hfit,hk0⟩
 ·refine ⟨?_,fun s' h => ?_,fun r h => ?_⟩
  ·unfold cgrow_l4_pre
   dsimp only
   intro h; omega
  ·unfold cgrow_l4_step at h
   dsimp only at h
   rw [if_neg (by omega)] at h
   cases h
  ·unfold cgrow_l4_step at h
   dsimp only at h
   rw [if_neg (by omega)] at h
   cases h
   exact ⟨free,tris,rfl,hI,ht,hno⟩
 ·have ek : w64 ((k:Int) + 1) = ((k + 1:Nat):Int) := cnt (n := 500) (by omega) (by omega)
  have hmem : ∀ i,i ∈ free.eraseIdx k → i ∈ F := fun i hi => hI.sub.subset ((List.eraseIdx_sublist free k).subset hi)
  have hmem2 : ∀ i,i ∈ tris ++ [free.getD k 0] → i ∈ F := fun i hi => by
   rw [List.mem_append,List.mem_singleton] at hi
   rcases hi with hi | rfl
   ·exact hI.perm.subset (List.mem_append_left _ hi)
   ·exact hI.sub.subset (getD_in hk 0)
  have hHas : ∀ i,i ∈ F → Has m i := fun i hi => (way_has (hF i hi)).1
  have hx := fun i (hi : i ∈ free.eraseIdx k) => pfits_law hm (w := w) (l := tris ++ [free.getD k 0]) (by rw [List.length_append,List.length_singleton]; omega) (fun j hj => hHas j (hmem2 j hj)) (hHas i (hmem i hi))
  have hidx := indexF_law (free.eraseIdx k) (by have := (List.eraseIdx_sublist free k).length_le; omega) (m,(w,tris ++ [free.getD k 0])) fun i hi => (hx i hi).1
  have hst : cgrow_l4_step m (free,(out,(w.1,(w.2,(w.1,(w.2,(tris,(k:Int)))))))) = .inl (free.eraseIdx k,(out,(w.1,(w.2,(w.1,(w.2,(tris ++ [free.getD k 0],findI (free.eraseIdx k) fun i => pfits ((m,(w,tris ++ [free.getD k 0])),i)))))))) := by
   unfold cgrow_l4_step
   dsimp only [letV]
   rw [if_pos (by omega),ek,Int.toNat_natCast,delZ_erase]
   rw [show indexF (free.eraseIdx k,(m,((w.1,w.2),tris ++ [free.getD k 0]))) = _ from hidx.2]
  refine ⟨?_,fun s' h => ?_,fun r h => ?_⟩
  ·unfold cgrow_l4_pre
   dsimp only [letP]
   intro _
   rw [ek,Int.toNat_natCast,delZ_erase]
   exact ⟨⟨by omega,by omega⟩,hk,hk,by omega,⟨by omega,by omega,by omega⟩,hidx.1⟩
  ·rw [hst] at h
   cases h
   refine ⟨⟨_,_,_,rfl,⟨?_,(List.eraseIdx_sublist free k).trans hI.sub,good_snoc hI.good hfit,.inr ⟨by simp,?_⟩⟩,?_⟩,?_⟩
   ·rw [List.append_assoc,List.singleton_append]
    exact (List.Perm.append_left _ (erase_perm hk)).trans hI.perm
   ·rcases hI.hd with ⟨h1,h2⟩ | ⟨h1,h2⟩
    ·subst h1 h2
     rw [hk0 rfl,hF0]; rfl
    ·cases tris with
     | nil => exact absurd rfl h1
     | cons a r => exact h2
   ·rcases findI_cases (free.eraseIdx k) (fun i => pfits ((m,(w,tris ++ [free.getD k 0])),i)) with ⟨h1,h2⟩ | ⟨j,h1,h2,h3⟩
    ·refine .inl ⟨h1,by simp,fun i hi hf => ?_⟩
     have := (hx i hi).2.2 hf
     rw [h2 i hi] at this; cases this
    ·exact .inr ⟨j,h1,h2,(hx _ (getD_in h2 0)).2.1 h3,fun e => by simp at e⟩
   ·show (free.eraseIdx k).length < free.length
    rw [List.length_eraseIdx_of_lt hk]; omega
  ·rw [hst] at h; cases h
end Go.Proofs.Ytpbbnoggkbfkoaa
