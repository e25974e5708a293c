/- Plain laws: neighbours. -/
import Derived.Test.YtkbmjhabfjgoiaaPe
noncomputable section
set_option linter.unusedSectionVars false
set_option linter.unusedVariables false
set_option linter.unusedSimpArgs false
namespace Go.Proofs.Ytkbmjhabfjgoiaa
open Go Go.Ev Go.Proofs
theorem mem_sortZ (l : List Int) (z:Int) : z ∈ sortZ l ↔ z ∈ l := List.mem_mergeSort
theorem mem_compZ (l : List Int) (z:Int) : z ∈ compZ l ↔ z ∈ l := by
 unfold compZ Lib.compact Lib.compactUpTo
 have hb : ∀ j,j < l.length → l.toArray[j]! = l.getD j 0 := fun j hj => by
  rw [getElem!_pos l.toArray j (by simpa using hj),List.getD_eq_getElem?_getD,List.getElem?_eq_getElem hj]; rfl
 rw [List.mem_map]
 constructor
 ·rintro ⟨j,hj,rfl⟩
  have hj : j < l.length := List.mem_range.1 (List.mem_filter.1 hj).1
  rw [hb j hj]; exact getD_in hj 0
 ·intro hz
  obtain ⟨j,hj,rfl⟩ := mem_getD hz 0
  induction j with
  | zero => exact ⟨0,List.mem_filter.2 ⟨List.mem_range.2 hj,by simp [Lib.keeps]⟩,hb 0 hj⟩
  | succ j ih =>
   by_cases hk : Lib.keeps l.toArray (j + 1) = true
   ·exact ⟨j + 1,List.mem_filter.2 ⟨List.mem_range.2 hj,hk⟩,hb _ hj⟩
   ·have e : l.toArray[j + 1]! = l.toArray[j]! := by
     simp only [Lib.keeps,decide_eq_true_eq,not_or,Decidable.not_not] at hk
     exact hk.2
    rw [hb _ hj,hb _ (by omega)] at e
    rw [e]
    exact ih (by omega) (getD_in (by omega) 0)
abbrev NX : Type := Mp × (Msh × Int)
theorem enear_in (x : NX) (ps : List P2) (i:Nat) (p : P2) (y : List Int) (hy : y.length ≤ 1500) (out : List Int) (ho : out.length ≤ 5000) :
  TR (enear_l2_7_step x) (enear_l2_7_pre x) (out,(ps,((ps.length:Int),((i:Int),(p,(y,((y.length:Int),0))))))) (fun r => ∃ o,r = (o,(ps,((ps.length:Int),(i:Int)))) ∧ o.length ≤ out.length + 1500 ∧ ∀ k,k ∈ o ↔ k ∈ out ∨ (k ≠ x.2.2 ∧ k ∈ y)) := by
 refine for_loop y.length (fun j s => ∃ o,s = (o,(ps,((ps.length:Int),((i:Int),(p,(y,((y.length:Int),(j:Int)))))))) ∧ o.length ≤ out.length + j ∧ ∀ k,k ∈ o ↔ k ∈ out ∨ (k ≠ x.2.2 ∧ k ∈ y.take j)) _ (fun j s hj ⟨o,e,h1,h2⟩ => ?_) (fun s ⟨o,e,h1,h2⟩ => ?_) ⟨out,rfl,Nat.le_refl _,fun k => by simp⟩
 ·subst e
  constructor
  ·unfold enear_l2_7_pre
   dsimp only
   intro _
   rw [Int.toNat_natCast]
   exact ⟨⟨by omega,by omega⟩,hj,hj,fun _ => by omega⟩
  ·refine .inl ?_
   unfold enear_l2_7_step
   dsimp only
   rw [if_pos (by omega),Int.toNat_natCast,cnt (n := 1500) (by omega) (by omega)]
   by_cases hk : y.getD j 0 = x.2.2
   ·rw [if_neg (by simpa using hk)]
    refine ⟨_,rfl,o,rfl,by omega,fun k => ?_⟩
    rw [h2 k,take_snoc hj 0,List.mem_append,List.mem_singleton]
    constructor
    ·rintro (h | ⟨h,h'⟩)
     ·exact .inl h
     ·exact .inr ⟨h,.inl h'⟩
    ·rintro (h | ⟨h,h' | h'⟩)
     ·exact .inl h
     ·exact .inr ⟨h,h'⟩
     ·exact absurd (h'.trans hk) h
   ·rw [if_pos (by simpa using hk)]
    refine ⟨_,rfl,_,rfl,by rw [List.length_append,List.length_singleton]; omega,fun k => ?_⟩
    rw [List.mem_append,List.mem_singleton,h2 k,take_snoc hj 0,List.mem_append,List.mem_singleton]
    constructor
    ·rintro ((h | ⟨h,h'⟩) | h)
     ·exact .inl h
     ·exact .inr ⟨h,.inl h'⟩
     ·exact .inr ⟨fun e => hk (h ▸ e),.inr h⟩
    ·rintro (h | ⟨h,h' | h'⟩)
     ·exact .inl (.inl h)
     ·exact .inl (.inr ⟨h,h'⟩)
     ·exact .inr h'
 ·subst e
  constructor
  ·unfold enear_l2_7_pre
   dsimp only
   intro h; omega
  ·unfold enear_l2_7_step
   dsimp only
   rw [if_neg (by omega)]
   refine ⟨_,rfl,o,rfl,by omega,fun k => ?_⟩
   rw [h2 k,List.take_length]
theorem enear_out (x : NX) (ps : List P2) (hps : ps.length ≤ 3) (hB : MapB x.1 1500) :
  TR (enear_l0_7_step x) (enear_l0_7_pre x) ([],(ps,((ps.length:Int),0))) (fun r => r.length ≤ 4500 ∧ ∀ k,k ∈ r ↔ k ≠ x.2.2 ∧ ∃ p ∈ ps,k ∈ lk x.1 p) := by
 refine for_loop ps.length (fun j s => ∃ o,s = (o,(ps,((ps.length:Int),(j:Int)))) ∧ o.length ≤ 1500 * j ∧ ∀ k,k ∈ o ↔ k ≠ x.2.2 ∧ ∃ p ∈ ps.take j,k ∈ lk x.1 p) _ (fun j s hj ⟨o,e,h1,h2⟩ => ?_) (fun s ⟨o,e,h1,h2⟩ => ?_) ⟨[],rfl,by simp,fun k => by simp⟩
 ·subst e
  have hin := enear_in x ps j (ps.getD j (0,0)) (lk x.1 (ps.getD j (0,0))) (hB _) o (by omega)
  constructor
  ·unfold enear_l0_7_pre
   dsimp only [letP]
   intro _
   rw [Int.toNat_natCast]
   exact ⟨⟨by omega,by omega⟩,hj,hj,hin.1⟩
  ·refine .inl ?_
   unfold enear_l0_7_step
   dsimp only [letV]
   rw [if_pos (by omega),Int.toNat_natCast]
   obtain ⟨o',g1,g2,g3⟩ := hin.2
   unfold lk at g1
   rw [g1]
   dsimp only
   rw [cnt (n := 100) (by omega) (by omega)]
   refine ⟨_,rfl,o',rfl,by omega,fun k => ?_⟩
   rw [g3 k,h2 k,take_snoc hj (0,0)]
   constructor
   ·rintro (⟨h,p,h',h''⟩ | ⟨h,h'⟩)
    ·exact ⟨h,p,by simp [h'],h''⟩
    ·exact ⟨h,_,by simp,h'⟩
   ·rintro ⟨h,p,h',h''⟩
    rw [List.mem_append,List.mem_singleton] at h'
    rcases h' with h' | rfl
    ·exact .inl ⟨h,p,h',h''⟩
    ·exact .inr ⟨h,h''⟩
 ·subst e
  constructor
  ·unfold enear_l0_7_pre
   dsimp only
   intro h; omega
  ·unfold enear_l0_7_step
   dsimp only
   rw [if_neg (by omega)]
   refine ⟨_,rfl,by omega,fun k => ?_⟩
   rw [h2 k,List.take_length]
theorem enear_law (M : Mp) (m : Msh) (i:Int) (hi : Has m i) (hB : MapB M 1500) : enear_pre (M,(m,i)) ∧ (∀ k,k ∈ (enear (M,(m,i))).1 ↔ k ≠ i ∧ ∃ p ∈ Prs (Trg m i),k ∈ lk M p) ∧ (enear (M,(m,i))).1.length ≤ 4500 := by
 have eT : m.2.2.2.getD i.toNat ((0,(0,0)),((0,(0,0)),(0,(0,0)))) = Trg m i := rfl
 have h := enear_out (M,(m,i)) (Prs (Trg m i)) (prs_len _) hB
 have hl : ∀ l : List Int,(sortZ l).length = l.length := fun l => List.length_mergeSort l
 refine ⟨?_,fun k => ?_,?_⟩
 ·unfold enear_pre
  dsimp only [letP]
  rw [eT,(epairs_law _).2]
  have := h.2.1
  exact ⟨hi,by omega,by omega,(epairs_law _).1,h.1,by omega,by rw [hl]; omega⟩
 ·unfold enear
  dsimp only [letV]
  rw [eT,(epairs_law _).2,mem_compZ,mem_sortZ]
  exact h.2.2 k
 ·unfold enear
  dsimp only [letV]
  rw [eT,(epairs_law _).2]
  refine Nat.le_trans (compact_le _) ?_
  rw [hl]; exact h.2.1
def Adj (m : Msh) (i k:Int) : Prop := k ≠ i ∧ Has m k ∧ ∃ p ∈ Prs (Trg m i),p ∈ Prs (Trg m k)
theorem enext_law {m : Msh} (hm : meshB m = true) {i : Int} (hi : Has m i) : enext_pre (m,i) ∧ (∀ k,k ∈ (enext (m,i)).1 ↔ Adj m i k) ∧ (enext (m,i)).1.length ≤ 4500 := by
 have hn := (mesh_len hm).2.2.2
 obtain ⟨t1,t2,t3⟩ := etable_law m hn
 obtain ⟨n1,n2,n3⟩ := enear_law (etable m) m i hi t2
 refine ⟨?_,fun k => ?_,?_⟩
 rotate_right
 ·unfold enext
  dsimp only [letV]
  rw [(meshis_law m).2,hm,if_neg (by decide),if_neg (by omega),if_neg (by omega)]
  exact n3
 ·unfold enext_pre
  dsimp only [letP]
  exact ⟨(meshis_law m).1,fun _ _ _ => ⟨t1,n1⟩⟩
 ·unfold enext
  dsimp only [letV]
  rw [(meshis_law m).2,hm,if_neg (by decide),if_neg (by omega),if_neg (by omega),n2 k]
  unfold Adj
  constructor
  ·rintro ⟨h1,p,h2,h3⟩
   rcases (t3 p k).1 h3 with ⟨a,a1,rfl,a3⟩ | ⟨_,h4⟩
   ·exact ⟨h1,⟨by omega,by omega⟩,p,h2,a3⟩
   ·simp at h4
  ·rintro ⟨h1,h2,p,h3,h4⟩
   refine ⟨h1,p,h3,(t3 p k).2 (.inl ⟨k.toNat,by omega,by omega,?_⟩)⟩
   rw [show ((k.toNat:Nat):Int) = k by omega]; exact h4
end Go.Proofs.Ytkbmjhabfjgoiaa

namespace Go.Proofs.Ytkbmjhabfjgoiaa
open Go Go.Ev Go.Proofs
theorem tame_mesh {m : Msh} (h : tameB m = true) : meshB m = true := by
 unfold tameB at h
 simp only [Bool.and_eq_true] at h
 exact h.1
def Way (m : Msh) (i:Int) : P2 × Bool := if Has m i ∧ Nm m i ≠ (0,(0,0)) then ((Ax (Nm m i),sg (Cp (Nm m i) (Ax (Nm m i)))),true) else ((0,0),false)
theorem bway_law {m : Msh} (hm : tameB m = true) (i:Int) : bway_pre (m,i) ∧ bway (m,i) = Way m i := by
 unfold bway_pre bway
 dsimp only [letP,letV]
 rw [bhas_law,bpoints_law]
 by_cases h : Has m i
 ·refine ⟨fun _ => ⟨bpoints_tm hm h,sfacing_tm _⟩,?_⟩
  rw [decide_eq_true h,if_neg (by decide)]
  obtain ⟨n1,n2,n3⟩ := pts_near hm h
  rw [show Pts m i = ((Pts m i).1,((Pts m i).2.1,(Pts m i).2.2)) from rfl,sfacing_law,if_pos ⟨by omega,by omega,by omega⟩]
  unfold Way
  rw [show Nrm (Pts m i).1 (Pts m i).2.1 (Pts m i).2.2 = Nm m i from rfl]
  by_cases hz : Nm m i = (0,(0,0))
  ·rw [if_pos hz,if_neg (fun q => q.2 hz)]; rfl
  ·rw [if_neg hz,if_pos ⟨h,hz⟩]; rfl
 ·refine ⟨fun h2 => absurd (by rw [decide_eq_false h]; rfl) h2,?_⟩
  rw [decide_eq_false h,if_pos (by decide)]
  unfold Way
  rw [if_neg (fun q => h q.1)]
theorem way_has {m : Msh} {i : Int} {w : P2} (h : Way m i = (w,true)) : Has m i ∧ Nm m i ≠ (0,(0,0)) ∧ w = (Ax (Nm m i),sg (Cp (Nm m i) (Ax (Nm m i)))) := by
 unfold Way at h
 split at h
 ·rename_i h1
  simp only [Prod.mk.injEq,and_true] at h
  exact ⟨h1.1,h1.2,h.symm⟩
 ·simp at h
theorem way_ax {m : Msh} {i : Int} {w : P2} (h : Way m i = (w,true)) : 0 ≤ w.1 ∧ w.1 < 3 := by
 rw [(way_has h).2.2]; exact ax_in _
theorem way_some {m : Msh} {i : Int} : (Way m i).2 = true ↔ Way m i = ((Way m i).1,true) := by
 constructor
 ·intro h; rw [← h]
 ·intro h; rw [h]
abbrev Pc : Type := Msh × (P2 × List Int)
theorem plooks_law {m : Msh} (hm : tameB m = true) (w : P2) (l : List Int) (i:Int) : plooks_pre ((m,(w,l)),i) ∧ (plooks ((m,(w,l)),i) = true ↔ Way m i = (w,true)) := by
 unfold plooks_pre plooks
 dsimp only [letV]
 obtain ⟨h1,h2⟩ := bway_law hm i
 refine ⟨h1,?_⟩
 rw [h2]
 cases e : (Way m i).2 with
 | false =>
  simp only [Bool.false_eq_true,if_false,false_iff]
  intro h; rw [h] at e; cases e
 | true =>
  rw [if_pos rfl,way_some.1 e]
  simp only [Bool.and_true,Bool.and_eq_true,beq_iff_eq,Prod.mk.injEq,and_true]
  exact ⟨fun h => Prod.ext h.1 h.2,fun h => by rw [h]; exact ⟨rfl,rfl⟩⟩
theorem bshadow_law {m : Msh} (hm : tameB m = true) {i : Int} (h : Has m i) (ax:Int) : bshadow_pre (m,(i,ax)) ∧ (0 ≤ ax ∧ ax < 3 → bshadow (m,(i,ax)) = Shd m i ax) := by
 unfold bshadow_pre bshadow
 dsimp only [letP,letV]
 rw [bpoints_law]
 refine ⟨⟨bpoints_tm hm h,(vdrop_law _ _).1,(vdrop_law _ _).1,(vdrop_law _ _).1⟩,fun ha => ?_⟩
 rw [(vdrop_law _ _).2,(vdrop_law _ _).2,(vdrop_law _ _).2,if_pos ha,if_pos ha,if_pos ha]
 rfl
def stepI (l : List Int) (f : Int → Bool) (s:Int) : Int ⊕ (Int ⊕ Unit) := if s < ((l.length:Nat):Int) then (if f (l.getD s.toNat 0) = true then .inr (.inl s) else .inl (w64 (s + 1))) else .inr (.inr ())
def preI (l : List Int) (p : Int → Prop) (s:Int) : Prop := s < ((l.length:Nat):Int) → (0 ≤ s ∧ s < ((l.length:Nat):Int)) ∧ s.toNat < l.length ∧ s.toNat < l.length ∧ p (l.getD s.toNat 0)
def findI (l : List Int) (f : Int → Bool) : Int := match l.findIdx? f with | some i => (i:Int) | none => -1
theorem idx_law (l : List Int) (hl : l.length < 4611686018427387904) (f : Int → Bool) (p : Int → Prop) (h : ∀ k ∈ l,p k) : Term (stepI l f) (preI l p) 0 ∧ Sum.elim (fun a => a) (fun _ => -1) (run (stepI l f) 0) = findI l f :=
 index_loop l hl f _ _ (fun i hi => fun hlt => ⟨⟨by omega,hlt⟩,by omega,by omega,h _ (getD_in (by omega) 0)⟩) (fun i x hx => by
  have hlt := lt_of_get hx
  unfold stepI
  rw [if_pos (by omega),Int.toNat_natCast,getD_of hx]) (by
  unfold stepI
  rw [if_neg (by omega)])
theorem idx_any (l : List Int) (f : Int → Bool) : decide (findI l f ≥ 0) = l.any f := find_any l f
theorem containsI_law (l : List Int) (hl : l.length < 4611686018427387904) (v:Int) : containsI_pre (l,v) ∧ (containsI (l,v) = true ↔ v ∈ l) := by
 have hh := index_loop l hl (fun k => v == k) (indexI_l0_step (l,v)) (indexI_l0_pre (l,v)) (fun i hi => by
   unfold indexI_l0_pre
   intro h
   simp only [Int.toNat_natCast]; dsimp only at h ⊢; omega) (fun i x hx => by
   have hlt := lt_of_get hx
   unfold indexI_l0_step
   dsimp only
   rw [if_pos (by omega),Int.toNat_natCast,getD_of hx]) (by
   unfold indexI_l0_step
   dsimp only
   rw [if_neg (by omega)])
 refine ⟨hh.1,?_⟩
 unfold containsI indexI
 dsimp only [letV]
 rw [hh.2,find_any,List.any_eq_true]
 constructor
 ·rintro ⟨x,h1,h2⟩
  rw [beq_iff_eq.1 h2]; exact h1
 ·intro h; exact ⟨v,h,by simp⟩
theorem containsO_law (l : List Int) (hl : l.length < 4611686018427387904) (x : T2 × Pc) (h : ∀ k ∈ l,pover_pre (k,x)) : containsO_pre (l,x) ∧ containsO (l,x) = l.any fun k => pover (k,x) := by
 have hh := idx_law l hl (fun k => pover (k,x)) (fun k => pover_pre (k,x)) h
 refine ⟨hh.1,?_⟩
 rw [← idx_any,← hh.2]; rfl
theorem containsP_law (l : List Int) (hl : l.length < 4611686018427387904) (x : Pc) (h : ∀ k ∈ l,pnear_pre (k,x)) : containsP_pre (l,x) ∧ containsP (l,x) = l.any fun k => pnear (k,x) := by
 have hh := idx_law l hl (fun k => pnear (k,x)) (fun k => pnear_pre (k,x)) h
 refine ⟨hh.1,?_⟩
 rw [← idx_any,← hh.2]; rfl
theorem indexF_law (l : List Int) (hl : l.length < 4611686018427387904) (x : Pc) (h : ∀ k ∈ l,pfits_pre (x,k)) : indexF_pre (l,x) ∧ indexF (l,x) = findI l fun k => pfits (x,k) := by
 have hh := idx_law l hl (fun k => pfits (x,k)) (fun k => pfits_pre (x,k)) h
 refine ⟨hh.1,?_⟩
 rw [← hh.2]; rfl
def Over (m : Msh) (ax i k:Int) : Prop := (moverlap (Shd m i ax,Shd m k ax)).1 = true
structure FitsP (m : Msh) (w : P2) (l : List Int) (i:Int) : Prop where
 way : Way m i = (w,true)
 new : i ∉ l
 apart : ∀ k ∈ l,¬ Over m w.1 i k
 near : l = [] ∨ ∃ k ∈ l,Adj m i k
theorem pover_law {m : Msh} (hm : tameB m = true) {k : Int} (hk : Has m k) (s : T2) (w : P2) (l : List Int) : pover_pre (k,(s,(m,(w,l)))) ∧ (0 ≤ w.1 ∧ w.1 < 3 → pover (k,(s,(m,(w,l)))) = (moverlap (s,Shd m k w.1)).1) := by
 unfold pover_pre pover
 dsimp only [letP,letV]
 obtain ⟨h1,h2⟩ := bshadow_law hm hk w.1
 exact ⟨⟨h1,moverlap_tm _⟩,fun h => by rw [h2 h]⟩
theorem pfits_law {m : Msh} (hm : tameB m = true) {w : P2} {l : List Int} (hl : l.length ≤ 1000) (hk : ∀ k ∈ l,Has m k) {i : Int} (hi : Has m i) : pfits_pre ((m,(w,l)),i) ∧ (pfits ((m,(w,l)),i) = true ↔ FitsP m w l i) := by
 obtain ⟨a1,a2⟩ := plooks_law hm w l i
 obtain ⟨b1,b2⟩ := containsI_law l (by omega) i
 obtain ⟨c1,c2⟩ := bshadow_law hm hi w.1
 obtain ⟨d1,d2⟩ := containsO_law l (by omega) (bshadow (m,(i,w.1)),(m,(w,l))) fun k h => (pover_law hm (hk k h) _ w l).1
 obtain ⟨e1,e2,e3⟩ := enext_law (tame_mesh hm) hi
 have f0 : ∀ k,pnear_pre (k,(m,(w,l))) ∧ pnear (k,(m,(w,l))) = containsI (l,k) := fun k => ⟨(containsI_law l (by omega) k).1,rfl⟩
 obtain ⟨f1,f2⟩ := containsP_law (enext (m,i)).1 (by omega) (m,(w,l)) fun k _ => (f0 k).1
 constructor
 ·unfold pfits_pre
  dsimp only [letP]
  exact ⟨a1,fun _ => ⟨b1,fun _ => ⟨c1,d1,fun _ => ⟨e1,fun _ => f1⟩⟩⟩⟩
 ·unfold pfits
  dsimp only [letV]
  by_cases hw : Way m i = (w,true)
  rotate_left
  ·have : plooks ((m,(w,l)),i) = false := by
    cases h : plooks ((m,(w,l)),i) with
    | false => rfl
    | true => exact absurd (a2.1 h) hw
   rw [this,if_pos (by decide)]
   exact ⟨fun h => (by cases h),fun h => absurd h.way hw⟩
  have hax := way_ax hw
  rw [a2.2 hw,if_neg (by decide)]
  by_cases hn : i ∈ l
  ·rw [if_pos (b2.2 hn)]
   exact ⟨fun h => (by cases h),fun h => absurd hn h.new⟩
  rw [if_neg fun h => hn (b2.1 h),d2,c2 hax]
  have hO : ((l.any fun k => pover (k,(Shd m i w.1,(m,(w,l))))) = true) ↔ ∃ k ∈ l,Over m w.1 i k := by
   rw [List.any_eq_true]
   constructor
   ·rintro ⟨k,h1,h2⟩
    rw [(pover_law hm (hk k h1) _ w l).2 hax] at h2
    exact ⟨k,h1,h2⟩
   ·rintro ⟨k,h1,h2⟩
    exact ⟨k,h1,by rw [(pover_law hm (hk k h1) _ w l).2 hax]; exact h2⟩
  by_cases ho : ∃ k ∈ l,Over m w.1 i k
  ·rw [if_pos (hO.2 ho)]
   obtain ⟨k,h1,h2⟩ := ho
   exact ⟨fun h => (by cases h),fun h => absurd h2 (h.apart k h1)⟩
  rw [if_neg fun h => ho (hO.1 h)]
  have hap : ∀ k ∈ l,¬ Over m w.1 i k := fun k h1 h2 => ho ⟨k,h1,h2⟩
  by_cases h0 : l = []
  ·rw [if_pos (by rw [h0]; decide)]
   exact ⟨fun _ => ⟨hw,hn,hap,.inl h0⟩,fun _ => rfl⟩
  ·have hlen : l.length ≠ 0 := fun e => h0 (List.eq_nil_of_length_eq_zero e)
   rw [if_neg (by simpa using h0),f2,List.any_eq_true]
   constructor
   ·rintro ⟨k,h1,h2⟩
    rw [(f0 k).2] at h2
    exact ⟨hw,hn,hap,.inr ⟨k,(containsI_law l (by omega) k).2.1 h2,(e2 k).1 h1⟩⟩
   ·intro h
    rcases h.near with h1 | ⟨k,h1,h2⟩
    ·exact absurd h1 h0
    ·exact ⟨k,(e2 k).2 h2,by rw [(f0 k).2]; exact (containsI_law l (by omega) k).2.2 h1⟩
end Go.Proofs.Ytkbmjhabfjgoiaa
