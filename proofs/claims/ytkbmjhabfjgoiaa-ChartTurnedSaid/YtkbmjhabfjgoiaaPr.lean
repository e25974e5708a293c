/- Plain laws: what is grown on a mesh that is turned over. -/
import Derived.Test.YtkbmjhabfjgoiaaPo
noncomputable section
set_option linter.unusedSectionVars false
set_option linter.unusedVariables false
set_option linter.unusedSimpArgs false
namespace Go.Proofs.Ytkbmjhabfjgoiaa
open Go Go.Ev Go.Proofs
theorem trn_tri (m : Msh) (t : T3) : triB (Trn m) (swp t) = triB m t := by
 unfold triB swp Trn
 dsimp only
 rw [Bool.eq_iff_iff]
 simp only [Bool.and_eq_true,beq_iff_eq]
 constructor
 ·rintro ⟨a1,a2,a3,_,_,b1,b2,b3,e1,e2,c1,c2,c3,e3,e4⟩
  exact ⟨b1,b2,b3,trivial,trivial,a1,a2,a3,e1.symm,e2.symm,c1,c2,c3,e3.trans e1.symm,e4.trans e2.symm⟩
 ·rintro ⟨a1,a2,a3,_,_,b1,b2,b3,e1,e2,c1,c2,c3,e3,e4⟩
  exact ⟨b1,b2,b3,trivial,trivial,a1,a2,a3,e1.symm,e2.symm,c1,c2,c3,e3.trans e1.symm,e4.trans e2.symm⟩
theorem trn_tame (m : Msh) : tameB (Trn m) = tameB m := by
 have h1 : fewB (Trn m) = fewB m := by unfold fewB; rw [trn_len]; rfl
 have h2 : (Trn m).2.2.2.all (triB (Trn m)) = m.2.2.2.all (triB m) := by
  show (m.2.2.2.map swp).all (triB (Trn m)) = _
  rw [List.all_map]
  congr 1
  funext t
  exact trn_tri m t
 unfold tameB meshB
 rw [h1,h2]
 rfl
theorem run_sim {S R S' R' : Type} [Inhabited R] [Inhabited R'] {f : S → S ⊕ R} {g : S' → S' ⊕ R'} {pre : S → Prop} (φ : S → S') (ψ : R → R') (J : S → Prop)
  (h1 : ∀ s s',J s → f s = .inl s' → J s' ∧ g (φ s) = .inl (φ s')) (h2 : ∀ s r,J s → f s = .inr r → g (φ s) = .inr (ψ r)) {s : S} (ht : Term f pre s) : J s → run g (φ s) = ψ (run f s) := by
 induction ht with
 | mk s hp hn ih =>
  intro hJ
  rw [run_eq g,run_eq f]
  cases e : f s with
  | inl s' =>
   obtain ⟨a,b⟩ := h1 s s' hJ e
   rw [b]
   exact ih s' e a
  | inr r => rw [h2 s r hJ e]
def opc (c : Chr) : Chr := (c.1,(-c.2.1,c.2.2))
theorem findI_congr {l : List Int} {f g : Int → Bool} (h : ∀ k ∈ l,f k = g k) : findI l f = findI l g := by
 unfold findI
 rw [show l.findIdx? f = l.findIdx? g from by
  induction l with
  | nil => rfl
  | cons a r ih =>
   simp only [List.findIdx?_cons]
   rw [h a (by simp),ih fun k hk => h k (by simp [hk])]]
theorem index_turn {m : Msh} (hm : tameB m = true) {y l : List Int} {w : P2} (hy : ∀ k ∈ y,Has m k) (hyl : y.length ≤ 1000) (hl : ∀ k ∈ l,Has m k) (hll : l.length ≤ 1000) : indexF (y,(Trn m,(opp w,l))) = indexF (y,(m,(w,l))) := by
 have hm' : tameB (Trn m) = true := by rw [trn_tame]; exact hm
 have p1 := fun k (hk : k ∈ y) => pfits_law hm (w := w) hll hl (hy k hk)
 have p2 := fun k (hk : k ∈ y) => pfits_law hm' (w := opp w) hll (fun j hj => (trn_has m j).2 (hl j hj)) ((trn_has m k).2 (hy k hk))
 rw [(indexF_law y (by omega) _ fun k hk => (p1 k hk).1).2,(indexF_law y (by omega) _ fun k hk => (p2 k hk).1).2]
 refine findI_congr fun k hk => ?_
 rw [Bool.eq_iff_iff,(p1 k hk).2,(p2 k hk).2]
 exact trn_fits (hy k hk) hl
abbrev S4 : Type := List Int × (List Chr × (Int × (Int × (Int × (Int × (List Int × Int))))))
abbrev R4 : Type := List Int × (List Chr × (Int × (Int × (Int × (Int × List Int)))))
def phi4 (s : S4) : S4 := (s.1,(s.2.1.map opc,(s.2.2.1,(-s.2.2.2.1,(s.2.2.2.2.1,(-s.2.2.2.2.2.1,(s.2.2.2.2.2.2.1,s.2.2.2.2.2.2.2)))))))
def psi4 (r : R4) : R4 := (r.1,(r.2.1.map opc,(r.2.2.1,(-r.2.2.2.1,(r.2.2.2.2.1,(-r.2.2.2.2.2.1,r.2.2.2.2.2.2))))))
structure J4 (m : Msh) (s : S4) : Prop where
 free : ∀ k ∈ s.1,Has m k
 tris : ∀ k ∈ s.2.2.2.2.2.2.1,Has m k
 len : s.1.length + s.2.2.2.2.2.2.1.length ≤ 1000
 at_ : 0 ≤ s.2.2.2.2.2.2.2 → s.2.2.2.2.2.2.2 < s.1.length
theorem grow4_turn {m : Msh} (hm : tameB m = true) {s : S4} (hT : Term (cgrow_l4_step m) (cgrow_l4_pre m) s) (hJ : J4 m s) : run (cgrow_l4_step (Trn m)) (phi4 s) = psi4 (run (cgrow_l4_step m) s) := by
 refine run_sim phi4 psi4 (J4 m) (fun s s' hJ e => ?_) (fun s r hJ e => ?_) hT hJ
 ·obtain ⟨free,out,a0,a1,w0,w1,tris,at'⟩ := s
  unfold cgrow_l4_step at e
  dsimp only [letV] at e
  by_cases h0 : at' ≥ 0
  ·rw [if_pos h0] at e
   obtain ⟨j1,j2,j3,j4⟩ := hJ
   dsimp only at j1 j2 j3 j4
   obtain ⟨k,rfl⟩ := Int.eq_ofNat_of_zero_le h0
   have hk : k < free.length := by have := j4 h0; omega
   rw [cnt (n := 1000) (by omega) (by omega),Int.toNat_natCast,delZ_erase] at e
   have hsub := List.eraseIdx_sublist free k
   have hlen : (free.eraseIdx k).length + 1 = free.length := by rw [List.length_eraseIdx_of_lt hk]; omega
   have hy : ∀ i ∈ free.eraseIdx k,Has m i := fun i hi => j1 i (hsub.subset hi)
   have hl : ∀ i ∈ tris ++ [free.getD k 0],Has m i := fun i hi => by
    rw [List.mem_append,List.mem_singleton] at hi
    rcases hi with hi | rfl
    ·exact j2 i hi
    ·exact j1 _ (getD_in hk 0)
   have hll : (tris ++ [free.getD k 0]).length = tris.length + 1 := by simp
   have hI := index_turn hm (w := (w0,w1)) hy (by omega) hl (by omega)
   cases e
   refine ⟨⟨hy,hl,by dsimp only; omega,fun hge => ?_⟩,?_⟩
   ·dsimp only at hge ⊢
    rw [(indexF_law (free.eraseIdx k) (by omega) (m,((w0,w1),tris ++ [free.getD k 0])) fun i hi => (pfits_law hm (by omega) hl (hy i hi)).1).2] at hge ⊢
    rcases findI_cases (free.eraseIdx k) (fun i => pfits ((m,((w0,w1),tris ++ [free.getD k 0])),i)) with ⟨h1,_⟩ | ⟨j,h1,h2,_⟩
    ·rw [h1] at hge; omega
    ·rw [h1]; omega
   ·unfold cgrow_l4_step phi4
    dsimp only [letV]
    rw [if_pos h0,cnt (n := 1000) (by omega) (by omega),Int.toNat_natCast,delZ_erase]
    rw [show indexF (free.eraseIdx k,(Trn m,((w0,-w1),tris ++ [free.getD k 0]))) = _ from hI]
  ·rw [if_neg h0] at e; cases e
 ·obtain ⟨free,out,a0,a1,w0,w1,tris,at'⟩ := s
  unfold cgrow_l4_step at e
  dsimp only [letV] at e
  by_cases h0 : at' ≥ 0
  ·rw [if_pos h0] at e; cases e
  ·rw [if_neg h0] at e
   cases e
   unfold cgrow_l4_step phi4
   dsimp only
   rw [if_neg h0]
   rfl
abbrev S2 : Type := List Int × List Chr
theorem grow_step {m : Msh} (hm : tameB m = true) {a : Int} {F : List Int} {out : List Chr} (hG : Grown m (Free0 m) (a :: F) out) :
  ∃ free tris,Term (cgrow_l4_step m) (cgrow_l4_pre m) (a :: F,(out,((Way m a).1.1,((Way m a).1.2,((Way m a).1.1,((Way m a).1.2,([],0))))))) ∧
   run (cgrow_l4_step m) (a :: F,(out,((Way m a).1.1,((Way m a).1.2,((Way m a).1.1,((Way m a).1.2,([],0))))))) = (free,(out,((Way m a).1.1,((Way m a).1.2,((Way m a).1.1,((Way m a).1.2,tris)))))) ∧
   Grown m (Free0 m) free (out ++ [((Way m a).1.1,((Way m a).1.2,tris))]) := by
 have hn := (mesh_len (tame_mesh hm)).2.2.2
 have hf := free0_len m
 have hsub := hG.sub.length_le
 have hA : AllF m (a :: F) := fun i hi => free0_all m i (hG.sub.subset hi)
 have hin := grow_in hm hA (by omega) (by simp) out (Way m a).1 (hA a (by simp))
 obtain ⟨free,tris,g1,g2,g3,g4⟩ := hin.2
 exact ⟨free,tris,hin.1,g1,hG.step (free0_sorted m) g2 g3 g4⟩
theorem grow2_turn {m : Msh} (hm : tameB m = true) : run (cgrow_l2_step (Trn m)) (Free0 m,[]) = (run (cgrow_l2_step m) (Free0 m,[])).map opc := by
 have hm' : tameB (Trn m) = true := by rw [trn_tame]; exact hm
 have hn := (mesh_len (tame_mesh hm)).2.2.2
 have hf := free0_len m
 refine run_sim (f := cgrow_l2_step m) (g := cgrow_l2_step (Trn m)) (fun s : S2 => (s.1,s.2.map opc)) (fun r => r.map opc) (fun s => Grown m (Free0 m) s.1 s.2) (fun s s' hG e => ?_) (fun s r hG e => ?_) (grow_out hm).1 ⟨by simp,List.Sublist.refl _,by simp,by simp,by simp,by simp,by simp,by simp,by simp⟩
 ·obtain ⟨F,out⟩ := s
  have hG : Grown m (Free0 m) F out := hG
  cases F with
  | nil =>
   unfold cgrow_l2_step at e
   dsimp only at e
   rw [if_neg (by simp)] at e
   cases e
  | cons a F =>
   obtain ⟨free,tris,t1,t2,t3⟩ := grow_step hm hG
   have hsub := hG.sub.length_le
   have hw := (bway_law hm a).2
   have hw' := (bway_law hm' a).2
   rw [trn_way] at hw'
   unfold cgrow_l2_step at e
   dsimp only [letV] at e
   rw [if_pos (by simp),show (a :: F).getD 0 0 = a from rfl,hw,t2] at e
   cases e
   refine ⟨t3,?_⟩
   have hsim := grow4_turn hm t1 ⟨fun k hk => (way_has (free0_all m k (hG.sub.subset hk))).1,fun k hk => by simp at hk,by dsimp only [List.length_nil]; omega,fun _ => by simp⟩
   rw [t2] at hsim
   unfold cgrow_l2_step
   dsimp only [letV]
   rw [if_pos (by simp),show (a :: F).getD 0 0 = a from rfl,hw']
   rw [show run (cgrow_l4_step (Trn m)) (a :: F,(List.map opc out,((opp (Way m a).1).1,((opp (Way m a).1).2,((opp (Way m a).1).1,((opp (Way m a).1).2,([],0))))))) = _ from hsim]
   unfold psi4
   dsimp only
   rw [List.map_append]
   rfl
 ·obtain ⟨F,out⟩ := s
  cases F with
  | nil =>
   unfold cgrow_l2_step at e ⊢
   dsimp only at e ⊢
   rw [if_neg (by simp)] at e ⊢
   cases e
   rfl
  | cons a F =>
   unfold cgrow_l2_step at e
   dsimp only [letV] at e
   rw [if_pos (by simp)] at e
   cases e
theorem cgrow_turn (m : Msh) : cgrow (Trn m) = ((cgrow m).1.map opc,(cgrow m).2) := by
 cases h : tameB m with
 | false =>
  rw [(cgrow_law m).2.2 h,(cgrow_law (Trn m)).2.2 (by rw [trn_tame]; exact h)]
  rfl
 | true =>
  have hm' : tameB (Trn m) = true := by rw [trn_tame]; exact h
  unfold cgrow
  dsimp only [letV]
  rw [(tame_law m).2,(tame_law (Trn m)).2,h,hm',if_neg (by decide),if_neg (by decide),(grow_free h).2,(grow_free hm').2,trn_free,grow2_turn h]
end Go.Proofs.Ytkbmjhabfjgoiaa

namespace Go.Proofs.Ytkbmjhabfjgoiaa
open Go Go.Ev Go.Proofs
theorem set_mid {α : Type} (b v : α) (B : List α) : ∀ (A : List α),(A ++ b :: B).set A.length v = A ++ v :: B
 | [] => rfl
 | a :: r => by
  have := set_mid b v B r
  simp only [List.cons_append,List.length_cons,List.set_cons_succ,this]
theorem get_mid {α : Type} (b d : α) (A B : List α) : (A ++ b :: B).getD A.length d = b := by
 rw [List.getD_eq_getElem?_getD,List.getElem?_append_right (Nat.le_refl _),Nat.sub_self]; rfl
theorem drop_mid {α : Type} {l : List α} {i : Nat} (h : i < l.length) (d : α) : l.drop i = l.getD i d :: l.drop (i + 1) := by
 rw [List.getD_eq_getElem?_getD,List.getElem?_eq_getElem h,Option.getD_some]
 exact List.drop_eq_getElem_cons h
theorem put_mid {α : Type} (f : α → α) {l : List α} {i : Nat} (h : i < l.length) (d : α) :
  ((l.take i).map f ++ l.drop i).getD i d = l.getD i d ∧ ((l.take i).map f ++ l.drop i).set i (f (l.getD i d)) = (l.take (i + 1)).map f ++ l.drop (i + 1) := by
 have hl : ((l.take i).map f).length = i := by rw [List.length_map,List.length_take]; omega
 rw [drop_mid h d]
 constructor
 ·have := get_mid (l.getD i d) d ((l.take i).map f) (l.drop (i + 1))
  rwa [hl] at this
 ·have := set_mid (l.getD i d) (f (l.getD i d)) (l.drop (i + 1)) ((l.take i).map f)
  rw [hl] at this
  rw [this,take_snoc h d,List.map_append,List.append_assoc]
  rfl
abbrev zT9 : T3 := ((0,(0,0)),((0,(0,0)),(0,(0,0))))
theorem tu_in (m : Msh) (hn : m.2.2.2.length ≤ 12) : TR (chartTurned_l0_step m) (chartTurned_l0_pre m) (m.1,(m.2.1,(m.2.2.1,(m.2.2.2,0)))) (fun r => r = Trn m) := by
 refine for_loop m.2.2.2.length (fun i s => s = (m.1,(m.2.1,(m.2.2.1,((m.2.2.2.take i).map swp ++ m.2.2.2.drop i,(i:Int)))))) _ (fun i s hi e => ?_) (fun s e => ?_) rfl
 ·subst e
  obtain ⟨p1,p2⟩ := put_mid swp hi zT9
  have hlen : ((m.2.2.2.take i).map swp ++ m.2.2.2.drop i).length = m.2.2.2.length := by simp; omega
  constructor
  ·unfold chartTurned_l0_pre
   dsimp only
   intro _
   simp only [Int.toNat_natCast,hlen]
   exact ⟨rg hi,hi,hi,rg hi,hi,hi⟩
  ·refine .inl ?_
   unfold chartTurned_l0_step
   dsimp only [letV]
   simp only [Int.toNat_natCast,hlen]
   have p1' : List.getD ((m.2.2.2.take i).map swp ++ m.2.2.2.drop i) i ((0,(0,0)),((0,(0,0)),(0,(0,0)))) = m.2.2.2.getD i zT9 := p1
   rw [if_pos (rg hi).2,p1',cnt (n := 100) (by omega) (by omega)]
   refine ⟨_,rfl,?_⟩
   rw [← p2]; rfl
 ·subst e
  constructor
  ·unfold chartTurned_l0_pre
   dsimp only
   intro h; simp at h
  ·unfold chartTurned_l0_step
   dsimp only
   rw [if_neg (by simp),List.take_length,List.drop_length,List.append_nil]
   exact ⟨_,rfl,rfl⟩
theorem tu_back (m : Msh) (l : List Chr) (hl : l.length ≤ 1000) (hs : ∀ c ∈ l,-1 ≤ c.2.1 ∧ c.2.1 ≤ 1) : TR (chartTurned_l2_step m) (chartTurned_l2_pre m) (l,(l.map opc,0)) (fun r => r = (l,l)) := by
 have hoo : ∀ c : Chr,opc (opc c) = c := fun c => by
  obtain ⟨a,b,d⟩ := c
  unfold opc
  simp
 have hmm : (l.map opc).map opc = l := by
  rw [List.map_map,show opc ∘ opc = id from funext hoo,List.map_id]
 refine for_loop l.length (fun i s => s = (l,(((l.map opc).take i).map opc ++ (l.map opc).drop i,(i:Int)))) _ (fun i s hi e => ?_) (fun s e => ?_) rfl
 ·subst e
  have hi' : i < (l.map opc).length := by rw [List.length_map]; exact hi
  obtain ⟨p1,p2⟩ := put_mid opc hi' zC
  have hlen : (((l.map opc).take i).map opc ++ (l.map opc).drop i).length = l.length := by simp; omega
  have hc : (l.map opc).getD i zC = opc (l.getD i zC) := by
   rw [List.getD_eq_getElem?_getD,List.getD_eq_getElem?_getD,List.getElem?_map,List.getElem?_eq_getElem hi]; rfl
  have hb := hs _ (getD_in hi zC)
  constructor
  ·unfold chartTurned_l2_pre
   dsimp only
   intro _
   simp only [Int.toNat_natCast,hlen]
   exact ⟨rg hi,hi,hi,hi,rg hi,hi,hi,hi⟩
  ·refine .inl ?_
   unfold chartTurned_l2_step
   dsimp only [letV]
   simp only [Int.toNat_natCast]
   have p1' : List.getD (((l.map opc).take i).map opc ++ (l.map opc).drop i) i (0,(0,[])) = opc (l.getD i zC) := by rw [← hc]; exact p1
   rw [if_pos (rg hi).2,p1',cnt (n := 1000) (by omega) (by omega)]
   refine ⟨_,rfl,?_⟩
   rw [← p2,hc,hoo]
   have : w64 (0 - (opc (l.getD i zC)).2.1) = (l.getD i zC).2.1 := by
    unfold opc
    dsimp only
    rw [w64_id (by omega) (by omega)]; omega
   rw [this]
   rfl
 ·subst e
  have hl0 : l.length = (l.map opc).length := by rw [List.length_map]
  constructor
  ·unfold chartTurned_l2_pre
   dsimp only
   intro h; omega
  ·unfold chartTurned_l2_step
   dsimp only
   rw [if_neg (by omega),hl0,List.take_length,List.drop_length,List.append_nil,hmm]
   exact ⟨_,rfl,rfl⟩
theorem same01_law (l : List Int) (hl : l.length ≤ 1000) : same01_pre (l,l) ∧ same01 (l,l) = true := by
 have key : TR (same01_l0_step (l,l)) (same01_l0_pre (l,l)) 0 (fun r => r = .inr ()) := by
  refine for_loop l.length (fun i s => s = (i:Int)) _ (fun i s hi e => ?_) (fun s e => ?_) rfl
  ·subst e
   constructor
   ·unfold same01_l0_pre
    dsimp only
    intro _
    simp only [Int.toNat_natCast]
    exact ⟨rg hi,hi,hi,rg hi,hi,hi⟩
   ·refine .inl ?_
    unfold same01_l0_step
    dsimp only
    rw [if_pos (rg hi).2,if_neg (by simp),cnt (n := 1000) (by omega) (by omega)]
    exact ⟨_,rfl,rfl⟩
  ·subst e
   constructor
   ·unfold same01_l0_pre
    dsimp only
    intro h; omega
   ·unfold same01_l0_step
    dsimp only
    rw [if_neg (by omega)]
    exact ⟨_,rfl,rfl⟩
 unfold same01_pre same01
 dsimp only [letV]
 refine ⟨fun _ => key.1,?_⟩
 rw [if_neg (by simp),key.2]
 rfl
theorem same15_law (l : List Chr) (hl : l.length ≤ 1000) (hs : ∀ c ∈ l,c.2.2.length ≤ 1000) : same15_pre (l,l) ∧ same15 (l,l) = true := by
 have key : TR (same15_l0_step (l,l)) (same15_l0_pre (l,l)) 0 (fun r => r = .inr ()) := by
  refine for_loop l.length (fun i s => s = (i:Int)) _ (fun i s hi e => ?_) (fun s e => ?_) rfl
  ·subst e
   obtain ⟨q1,q2⟩ := same01_law (l.getD i zC).2.2 (hs _ (getD_in hi zC))
   have q2' : same01 ((List.getD l i (0,(0,[]))).2.2,(List.getD l i (0,(0,[]))).2.2) = true := q2
   constructor
   ·unfold same15_l0_pre
    dsimp only
    intro _
    simp only [Int.toNat_natCast]
    exact ⟨rg hi,hi,hi,hi,rg hi,hi,hi,hi,fun _ => ⟨rg hi,hi,hi,hi,rg hi,hi,hi,hi,fun _ => ⟨rg hi,hi,hi,hi,rg hi,hi,hi,hi,q1⟩⟩⟩
   ·refine .inl ?_
    unfold same15_l0_step
    dsimp only [letV]
    simp only [Int.toNat_natCast]
    rw [if_pos (rg hi).2,if_neg (by simp),if_neg (by simp)]
    simp only [q2']
    rw [if_neg (by decide),cnt (n := 1000) (by omega) (by omega)]
    exact ⟨_,rfl,rfl⟩
  ·subst e
   constructor
   ·unfold same15_l0_pre
    dsimp only
    intro h; omega
   ·unfold same15_l0_step
    dsimp only
    rw [if_neg (by omega)]
    exact ⟨_,rfl,rfl⟩
 unfold same15_pre same15
 dsimp only [letV]
 refine ⟨fun _ => key.1,?_⟩
 rw [if_neg (by simp),key.2]
 rfl
theorem sides {m : Msh} {out : List Chr} (h : Grown m (Free0 m) [] out) : ∀ c ∈ out,-1 ≤ c.2.1 ∧ c.2.1 ≤ 1 := fun c hc => by
 obtain ⟨h1,h2⟩ := h.good c hc
 have hw := (h2 0 (List.length_pos_iff.2 h1)).way
 have := congrArg Prod.snd (way_has hw).2.2
 have e : c.2.1 = sg (Cp (Nm m (c.2.2.getD 0 0)) (Ax (Nm m (c.2.2.getD 0 0)))) := this
 rw [e]
 rcases sg_cases (Cp (Nm m (c.2.2.getD 0 0)) (Ax (Nm m (c.2.2.getD 0 0)))) with ⟨_,h⟩ | ⟨_,h⟩ | ⟨_,h⟩ <;> rw [h] <;> omega
theorem turned_law (m : Msh) : chartTurned_pre m ∧ chartTurned m = true := by
 obtain ⟨f1,f2⟩ := few15_law m
 have g1 := (cgrow_law m).1
 have g2 := (cgrow_law (Trn m)).1
 obtain ⟨c1,c2⟩ := charted_law
 have ht := cgrow_turn m
 have hO : (∀ c ∈ (cgrow m).1,-1 ≤ c.2.1 ∧ c.2.1 ≤ 1) ∧ (cgrow m).1.length ≤ 1000 ∧ ∀ c ∈ (cgrow m).1,c.2.2.length ≤ 1000 := by
  rcases tame_cases m with ⟨ht,h1,h2⟩ | ⟨ht,h1,h2⟩
  ·exact ⟨sides h2,(h2.okay ht).len,(h2.okay ht).small⟩
  ·rw [h2]; exact ⟨by simp,by simp,by simp⟩
 obtain ⟨o1,o2,o3⟩ := hO
 have hB := tu_back m (cgrow m).1 o2 o1
 obtain ⟨s1,s2⟩ := same15_law (cgrow m).1 o2 o3
 have e1 : (cgrow (Trn m)).1 = (cgrow m).1.map opc := by rw [ht]
 have e2 : (cgrow (Trn m)).2 = (cgrow m).2 := by rw [ht]
 constructor
 ·unfold chartTurned_pre
  refine ⟨f1,letP_i fun h => ?_⟩
  have hf : few15 (m,[]) = true := by simpa using h
  obtain ⟨n1,n2,n3,n4⟩ := f2 hf
  have hA := tu_in m n4
  have hA2 : run (chartTurned_l0_step m) ((own08 m).1,((own08 m).2.1,((own08 m).2.2.1,((own08 m).2.2.2,0)))) = Trn m := hA.2
  refine ⟨⟨by omega,by omega,by omega,by omega⟩,letP_i ⟨hA.1,letP_i ⟨g1,letP_i ?_⟩⟩⟩
  rw [hA2]
  refine ⟨g2,letP_i fun _ _ => ?_⟩
  rw [e1]
  refine ⟨hB.1,letP_i ⟨c1,letP_i fun _ => ?_⟩⟩
  rw [hB.2]
  exact s1
 ·unfold chartTurned
  rw [letV_e]
  cases hf : few15 (m,[]) with
  | false => rw [if_pos (by decide)]
  | true =>
   obtain ⟨n1,n2,n3,n4⟩ := f2 hf
   have hA := tu_in m n4
   have hA2 : run (chartTurned_l0_step m) ((own08 m).1,((own08 m).2.1,((own08 m).2.2.1,((own08 m).2.2.2,0)))) = Trn m := hA.2
   rw [if_neg (by decide),letV_e,letV_e,hA2,letV_e,letV_e,e1,e2,if_neg (by simp),if_neg (by simp),letV_e,hB.2,letV_e,c2,if_pos rfl,letV_e,s2]
end Go.Proofs.Ytkbmjhabfjgoiaa
