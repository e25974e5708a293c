/- Plain laws: the document's rows; which meshes count. -/
import Derived.Test.YtkbmjhabfjgoiaaGreatPi
import Derived.Test.YtkbmjhabfjgoiaaGreatCc
noncomputable section
set_option linter.unusedSectionVars false
set_option linter.unusedVariables false
set_option linter.unusedSimpArgs false
namespace Go.Proofs.YtkbmjhabfjgoiaaGreat
open Go Go.Ev Go.Proofs
def mA : Msh := ([(0,(0,0)),(9,(0,0)),(9,(9,0)),(0,(9,0)),(9,(0,9))],([],([],[three (0,(1,2)),three (0,(2,3))])))
def mB : Msh := ([(0,(0,0)),(9,(0,0)),(9,(9,0)),(0,(0,9))],([],([],[three (0,(1,2)),three (0,(1,3))])))
def mC : Msh := ([(4097,(0,0))],([],([],[])))
theorem mA_tame : tameB mA = true := by kernel_rfl
theorem mB_tame : tameB mB = true := by kernel_rfl
theorem mC_tame : tameB mC = false := by kernel_rfl
theorem mA_free : Free0 mA = [0,1] := by kernel_rfl
theorem mB_free : Free0 mB = [0,1] := by kernel_rfl
theorem mA_way0 : Way mA 0 = ((2,1),true) := by kernel_rfl
theorem mA_way1 : Way mA 1 = ((2,1),true) := by kernel_rfl
theorem mB_way : ((Way mB 0).1 == (Way mB 1).1) = false := by kernel_rfl
theorem mA_over : ¬ Over mA 2 1 0 := by
 unfold Over
 have h1 : decide (Rt (Shd mA 1 2) ∧ Rt (Shd mA 0 2)) = true := by kernel_rfl
 rw [moverlap_law,if_pos (of_decide_eq_true h1)]
 have h2 : Ov (Shd mA 1 2) (Shd mA 0 2) = false := by kernel_rfl
 rw [h2]; decide
theorem mA_adj : Adj mA 1 0 := by
 refine ⟨by decide,by decide,(0,2),?_,?_⟩
 ·have : (Prs (Trg mA 1)).elem (0,2) = true := by kernel_rfl
  exact List.elem_iff.1 this
 ·have : (Prs (Trg mA 0)).elem (0,2) = true := by kernel_rfl
  exact List.elem_iff.1 this
theorem pos_of {l : List Int} (h : l ≠ []) : 0 < l.length := List.length_pos_iff.2 h
theorem mA_grown {out : List Chr} (h : Grown mA (Free0 mA) [] out) : out.length = 1 ∧ (out.getD 0 zC).2.2.length = 2 := by
 have hp := h.perm
 rw [List.append_nil,mA_free] at hp
 have hl := hp.length_eq
 match out,h,hp,hl with
 | [],h,hp,hl => simp at hl
 | [c],h,hp,hl => simpa using hl
 | c :: d :: r,h,hp,hl =>
  exfalso
  have h1 := (h.good c (by simp)).1
  have h2 := (h.good d (by simp)).1
  have h3 := pos_of h1
  have h4 := pos_of h2
  rw [List.flatMap_cons,List.flatMap_cons,List.length_append,List.length_append] at hl
  simp only [List.length_cons,List.length_nil] at hl
  obtain ⟨x,hx⟩ : ∃ x,c.2.2 = [x] := List.length_eq_one_iff.1 (by omega)
  obtain ⟨y,hy⟩ : ∃ y,d.2.2 = [y] := List.length_eq_one_iff.1 (by omega)
  have m1 : x ∈ [0,1] := hp.subset (by simp [hx])
  have m2 : y ∈ [(0:Int),1] := hp.subset (by simp [hy])
  have hr := (List.pairwise_cons.1 h.rise).1 d (by simp) y (by simp [hy])
  have hf := (List.pairwise_cons.1 h.full).1 d (by simp) y (by simp [hy])
  rw [hx] at hr hf
  have hr : x < y := hr
  simp only [List.mem_cons,List.mem_nil_iff,or_false] at m1 m2
  obtain rfl : x = 0 := by omega
  obtain rfl : y = 1 := by omega
  have hw := good_way (h.good c (by simp)).2 (i := 0) (by simp [hx])
  rw [mA_way0] at hw
  have hw : ((2:Int),(1:Int)) = cw c := congrArg Prod.fst hw
  rw [← hw] at hf
  exact hf ⟨mA_way1,by decide,fun k hk => by
   rw [List.mem_singleton.1 hk]; exact mA_over,.inr ⟨0,by simp,mA_adj⟩⟩
theorem mB_grown {out : List Chr} (h : Grown mB (Free0 mB) [] out) : out.length = 2 := by
 have hp := h.perm
 rw [List.append_nil,mB_free] at hp
 have hl := hp.length_eq
 match out,h,hp,hl with
 | [],h,hp,hl => simp at hl
 | [c],h,hp,hl =>
  exfalso
  have w0 := good_way (h.good c (by simp)).2 (i := 0) (by
   have := hp.symm.subset (a := 0) (by simp)
   simpa using this)
  have w1 := good_way (h.good c (by simp)).2 (i := 1) (by
   have := hp.symm.subset (a := 1) (by simp)
   simpa using this)
  have := mB_way
  rw [w0,w1] at this
  simp at this
 | [c,d],h,hp,hl => rfl
 | c :: d :: e :: r,h,hp,hl =>
  exfalso
  have h1 := pos_of (h.good c (by simp)).1
  have h2 := pos_of (h.good d (by simp)).1
  have h3 := pos_of (h.good e (by simp)).1
  rw [List.flatMap_cons,List.flatMap_cons,List.flatMap_cons,List.length_append,List.length_append,List.length_append] at hl
  simp only [List.length_cons,List.length_nil] at hl
  omega
theorem mA_isnil : cis_pre (mA,[]) ∧ cis (mA,[]) = false := by
 obtain ⟨h1,h2⟩ := cis_law mA_tame (l := []) ⟨by simp,by simp,by simp⟩
 refine ⟨h1,?_⟩
 cases h : cis (mA,[]) with
 | false => rfl
 | true =>
  have := h2.1 h 0 (by decide) (by rw [show ((0:Nat):Int) = 0 from rfl,mA_way0])
  simp at this
theorem charted_law : charted_pre false ∧ charted false = true := by
 have hA := (cgrow_law mA).2.1 mA_tame
 have hB := (cgrow_law mB).2.1 mB_tame
 have hC := (cgrow_law mC).2.2 mC_tame
 obtain ⟨a1,a2⟩ := mA_grown hA.2
 have b1 := mB_grown hB.2
 obtain ⟨i1,i2⟩ := hA.2.is mA_tame
 obtain ⟨n1,n2⟩ := mA_isnil
 have f1 : facing (mA,0) = (2,(1,true)) := by
  rw [(facing_law mA 0).2]; kernel_rfl
 have s1 : shadow (mA,(1,2)) = (((0,0),((9,9),(0,9))),0) := by
  rw [(shadow_law mA 1 2).2]; kernel_rfl
 have t1 : tame mA = true := (tame_law mA).2.trans mA_tame
 constructor
 ·unfold charted_pre
  dsimp only [letP]
  show cgrow_pre mA ∧ cgrow_pre mB ∧ facing_pre (mA,0) ∧ cgrow_pre mC ∧ shadow_pre (mA,(1,2)) ∧ _
  refine ⟨(cgrow_law mA).1,(cgrow_law mB).1,(facing_law mA 0).1,(cgrow_law mC).1,(shadow_law mA 1 2).1,fun _ _ => ?_⟩
  show ((0:Int) < (((cgrow mA).1.length:Nat):Int)) ∧ 0 < (cgrow mA).1.length ∧ 0 < (cgrow mA).1.length ∧ 0 < (cgrow mA).1.length ∧ _
  rw [a1]
  refine ⟨by decide,by decide,by decide,by decide,fun _ _ _ _ _ _ _ _ _ => ?_⟩
  show cis_pre (mA,(cgrow mA).1) ∧ (cis (mA,(cgrow mA).1) = true → cis_pre (mA,[]) ∧ ((!cis (mA,[])) = true → tame_pre mA))
  exact ⟨i1,fun _ => ⟨n1,fun _ => (tame_law mA).1⟩⟩
 ·unfold charted
  dsimp only [letV]
  show (if ((cgrow mA).2 == 0) = true then _ else false) = true
  rw [hA.1,if_pos (by decide)]
  show (if ((((cgrow mA).1.length:Nat):Int) == 1) = true then _ else false) = true
  rw [a1,if_pos (by decide)]
  show (if (((((cgrow mA).1.getD 0 zC).2.2.length:Nat):Int) == 2) = true then _ else false) = true
  rw [a2,if_pos (by decide)]
  show (if ((cgrow mB).2 == (cgrow mA).2) = true then _ else false) = true
  rw [hB.1,hA.1,if_pos (by decide)]
  show (if ((((cgrow mB).1.length:Nat):Int) == 2) = true then _ else false) = true
  rw [b1,if_pos (by decide)]
  show (if (facing (mA,0)).2.2 = true then (if ((facing (mA,0)).1 == 2) = true then (if ((facing (mA,0)).2.1 == 1) = true then (if ((cgrow mC).2 == 1) = true then (if ((shadow (mA,(1,2))).2 == (cgrow mA).2) = true then _ else false) else false) else false) else false) else false) = true
  rw [f1,if_pos (by decide),if_pos (by decide),if_pos (by decide),hC,if_pos (by decide),s1,hA.1,if_pos (by decide)]
  show (if ((((shadow (mA,(1,2))).1.1.1 == 0) && (((shadow (mA,(1,2))).1.1.2 == 0) && true)) && ((((shadow (mA,(1,2))).1.2.1.1 == 9) && (((shadow (mA,(1,2))).1.2.1.2 == 9) && true)) && ((((shadow (mA,(1,2))).1.2.2.1 == 0) && (((shadow (mA,(1,2))).1.2.2.2 == 9) && true)) && true))) = true then _ else false) = true
  rw [s1,if_pos (by decide)]
  show (if cis (mA,(cgrow mA).1) = true then (if (!cis (mA,[])) = true then tame mA else false) else false) = true
  rw [if_pos i2,n2,if_pos (by decide),t1]
theorem few15_law (m : Msh) : few15_pre (m,[]) ∧ (few15 (m,[]) = true → m.1.length ≤ 20 ∧ m.2.1.length ≤ 60 ∧ m.2.2.1.length ≤ 60 ∧ m.2.2.2.length ≤ 12) := by
 have key : TR (few15_l0_step (m,[])) (few15_l0_pre (m,[])) 0 (fun r => r = .inr ()) := by
  refine TR.stop ?_ (r := .inr ()) ?_ rfl
  ·unfold few15_l0_pre
   dsimp only
   intro h; simp at h
  ·unfold few15_l0_step
   dsimp only
   rw [if_neg (by simp)]
 refine ⟨key.1,fun h => ?_⟩
 unfold few15 at h
 dsimp only [letV] at h
 rw [key.2] at h
 dsimp only [Sum.elim] at h
 rw [if_pos (by decide)] at h
 unfold few14 at h
 by_cases h1 : ((m.1.length:Nat):Int) ≤ 20
 ·by_cases h2 : ((m.2.1.length:Nat):Int) ≤ 60
  ·by_cases h3 : ((m.2.2.1.length:Nat):Int) ≤ 60
   ·by_cases h4 : ((m.2.2.2.length:Nat):Int) ≤ 20
    ·rw [if_pos h1,if_pos h2,if_pos h3,decide_eq_true h4,if_pos rfl] at h
     have h := of_decide_eq_true h
     omega
    ·rw [if_pos h1,if_pos h2,if_pos h3,decide_eq_false h4,if_neg (by decide)] at h; cases h
   ·rw [if_pos h1,if_pos h2,if_neg h3,if_neg (by decide)] at h; cases h
  ·rw [if_pos h1,if_neg h2,if_neg (by decide)] at h; cases h
 ·rw [if_neg h1,if_neg (by decide)] at h; cases h
end Go.Proofs.YtkbmjhabfjgoiaaGreat

namespace Go.Proofs.YtkbmjhabfjgoiaaGreat
open Go Go.Ev Go.Proofs
theorem plookn_law {m : Msh} (hm : tameB m = true) (w : P2) (l : List Int) (k:Int) : plookn_pre (k,(m,(w,l))) ∧ (plookn (k,(m,(w,l))) = false ↔ Way m k = (w,true)) := by
 obtain ⟨h1,h2⟩ := plooks_law hm w l k
 unfold plookn_pre plookn
 dsimp only [letV]
 refine ⟨h1,?_⟩
 rw [← h2]
 cases plooks ((m,(w,l)),k) <;> simp
theorem pfits_any {m : Msh} (hm : tameB m = true) {w : P2} {l : List Int} (hl : l.length ≤ 1000) (hk : ∀ k ∈ l,Has m k) (i:Int) : pfits_pre ((m,(w,l)),i) ∧ (pfits ((m,(w,l)),i) = true ↔ FitsP m w l i) := by
 by_cases hi : Has m i
 ·exact pfits_law hm hl hk hi
 ·obtain ⟨a1,a2⟩ := plooks_law hm w l i
  have hf : plooks ((m,(w,l)),i) = false := by
   cases h : plooks ((m,(w,l)),i) with
   | false => rfl
   | true => exact absurd (way_has (a2.1 h)).1 hi
  constructor
  ·unfold pfits_pre
   dsimp only [letP]
   exact ⟨a1,fun h => absurd (by rw [hf]; rfl) h⟩
  ·unfold pfits
   dsimp only [letV]
   rw [hf,if_pos (by decide)]
   exact ⟨fun h => (by cases h),fun h => absurd (way_has h.way).1 hi⟩
def RF (m : Msh) (c : Chr) (i:Int) : Prop := (∀ k ∈ c.2.2,Way m k = (cw c,true)) ∧ FitsP m (cw c) c.2.2 i
theorem cfits_full {m : Msh} (c : Chr) (hl : c.2.2.length ≤ 1000) (i:Int) : cfits_pre (m,(c,i)) ∧ (cfits (m,(c,i)) = true ↔ tameB m = true ∧ RF m c i) := by
 cases hm : tameB m with
 | false =>
  unfold cfits_pre cfits
  dsimp only [letP,letV]
  rw [(tame_law m).2,hm,if_pos (by decide)]
  exact ⟨⟨(tame_law m).1,fun h => absurd rfl h⟩,⟨fun h => (by cases h),fun h => (by cases h.1)⟩⟩
 | true =>
  obtain ⟨a,b,l⟩ := c
  dsimp only at hl
  obtain ⟨c1,c2⟩ := containsL_law l (by omega) (m,((a,b),l)) fun k _ => (plookn_law hm (a,b) l k).1
  have hall : containsL (l,(m,((a,b),l))) = false ↔ ∀ k ∈ l,Way m k = ((a,b),true) := by
   rw [c2,List.any_eq_false]
   constructor
   ·intro h k hk
    refine (plookn_law hm (a,b) l k).2.1 ?_
    have := h k hk
    simpa using this
   ·intro h k hk
    rw [(plookn_law hm (a,b) l k).2.2 (h k hk)]; decide
  unfold cfits_pre cfits
  dsimp only [letP,letV]
  rw [(tame_law m).2,hm,if_neg (by decide)]
  by_cases h : ∀ k ∈ l,Way m k = ((a,b),true)
  ·obtain ⟨p1,p2⟩ := pfits_any hm (w := (a,b)) (l := l) (by omega) (fun k hk => (way_has (h k hk)).1) i
   rw [hall.2 h,if_pos (by decide)]
   exact ⟨⟨(tame_law m).1,fun _ => ⟨c1,fun _ => p1⟩⟩,p2.trans ⟨fun q => ⟨rfl,h,q⟩,fun q => q.2.2⟩⟩
  ·have hc : containsL (l,(m,((a,b),l))) = true := by
    cases e : containsL (l,(m,((a,b),l))) with
    | true => rfl
    | false => exact absurd (hall.1 e) h
   rw [hc,if_neg (by decide)]
   exact ⟨⟨(tame_law m).1,fun _ => ⟨c1,fun q => absurd q (by decide)⟩⟩,⟨fun q => (by cases q),fun q => absurd q.2.1 h⟩⟩
def fb (m : Msh) (w : P2) (l : List Int) (i:Int) : Bool := pfits ((m,(w,l)),i)
def pick (m : Msh) (w : P2) : Nat → List Int → List Int → List Int × List Int
 | 0,tris,free => (tris,free)
 | n + 1,tris,free => match free.findIdx? (fb m w tris) with
  | none => (tris,free)
  | some k => pick m w n (tris ++ [free.getD k 0]) (free.eraseIdx k)
theorem pick_len (m : Msh) (w : P2) : ∀ (n:Nat) (tris free : List Int),(pick m w n tris free).1.length + (pick m w n tris free).2.length = tris.length + free.length
 | 0,tris,free => rfl
 | n + 1,tris,free => by
  rw [pick]
  cases h : free.findIdx? (fb m w tris) with
  | none => rfl
  | some k =>
   rw [List.findIdx?_eq_some_iff_getElem] at h
   obtain ⟨h1,_⟩ := h
   show (pick m w n (tris ++ [free.getD k 0]) (free.eraseIdx k)).1.length + (pick m w n (tris ++ [free.getD k 0]) (free.eraseIdx k)).2.length = _
   rw [pick_len m w n,List.length_append,List.length_singleton,List.length_eraseIdx_of_lt h1]; omega
theorem pick_sub (m : Msh) (w : P2) : ∀ (n:Nat) (tris free : List Int),(pick m w n tris free).2.Sublist free
 | 0,tris,free => List.Sublist.refl _
 | n + 1,tris,free => by
  rw [pick]
  cases h : free.findIdx? (fb m w tris) with
  | none => exact List.Sublist.refl _
  | some k => exact (pick_sub m w n _ _).trans (List.eraseIdx_sublist free k)
theorem pick_in {m : Msh} (hm : tameB m = true) {F : List Int} (hF : ∀ i ∈ F,Has m i) (hl : F.length ≤ 500) (h0 : F ≠ []) (out : List Chr) (w : P2) :
  TR (cgrow_l4_step m) (cgrow_l4_pre m) (F,(out,(w.1,(w.2,(w.1,(w.2,([],0))))))) (fun r => r = ((pick m w F.length [F.getD 0 0] (F.eraseIdx 0)).2,(out,(w.1,(w.2,(w.1,(w.2,(pick m w F.length [F.getD 0 0] (F.eraseIdx 0)).1))))))) := by
 have hp0 : 0 < F.length := List.length_pos_iff.2 h0
 generalize hR : pick m w F.length [F.getD 0 0] (F.eraseIdx 0) = R
 refine TR.inv (fun s => ∃ (free tris : List Int) (at':Int),s = (free,(out,(w.1,(w.2,(w.1,(w.2,(tris,at'))))))) ∧ (∀ i,i ∈ tris ∨ i ∈ free → i ∈ F) ∧ tris.length + free.length = F.length ∧ ((at' = -1 ∧ R = (tris,free)) ∨ ∃ k n : Nat,at' = k ∧ k < free.length ∧ free.length ≤ n + 1 ∧ pick m w n (tris ++ [free.getD k 0]) (free.eraseIdx k) = R)) (fun s => s.1.length) (fun s ⟨free,tris,at',e,hI,hlen,ha⟩ => ?_) ⟨F,[],0,rfl,fun i h => h.elim (fun h => absurd h (by simp)) id,by simp,.inr ⟨0,F.length,rfl,hp0,by omega,hR⟩⟩
 subst e
 rcases ha with ⟨rfl,hRR⟩ | ⟨k,n,rfl,hk,hfu,hRR⟩
 ·refine ⟨?_,fun s' h => ?_,fun r h => ?_⟩
  ·unfold cgrow_l4_pre
   dsimp only
   intro h; omega
  ·unfold cgrow_l4_step at h
   dsimp only at h
   rw [if_neg (by omega)] at h
   cases h
  ·unfold cgrow_l4_step at h
   dsimp only at h
   rw [if_neg (by omega)] at h
   cases h
   rw [hRR]
 ·have ek : w64 ((k:Int) + 1) = ((k + 1:Nat):Int) := cnt (n := 500) (by omega) (by omega)
  have hmem : ∀ i,i ∈ free.eraseIdx k → i ∈ F := fun i hi => hI i (.inr ((List.eraseIdx_sublist free k).subset hi))
  have hmem2 : ∀ i,i ∈ tris ++ [free.getD k 0] → i ∈ F := fun i hi => by
   rw [List.mem_append,List.mem_singleton] at hi
   rcases hi with hi | rfl
   ·exact hI i (.inl hi)
   ·exact hI _ (.inr (getD_in hk 0))
  have hx := fun i (hi : i ∈ free.eraseIdx k) => pfits_law hm (w := w) (l := tris ++ [free.getD k 0]) (by rw [List.length_append,List.length_singleton]; omega) (fun j hj => hF j (hmem2 j hj)) (hF i (hmem i hi))
  have hidx := indexF_law (free.eraseIdx k) (by have := (List.eraseIdx_sublist free k).length_le; omega) (m,(w,tris ++ [free.getD k 0])) fun i hi => (hx i hi).1
  have hst : cgrow_l4_step m (free,(out,(w.1,(w.2,(w.1,(w.2,(tris,(k:Int)))))))) = .inl (free.eraseIdx k,(out,(w.1,(w.2,(w.1,(w.2,(tris ++ [free.getD k 0],findI (free.eraseIdx k) (fb m w (tris ++ [free.getD k 0])))))))))  := by
   unfold cgrow_l4_step
   dsimp only [letV]
   rw [if_pos (by omega),ek,Int.toNat_natCast,delZ_erase]
   rw [show indexF (free.eraseIdx k,(m,((w.1,w.2),tris ++ [free.getD k 0]))) = _ from hidx.2]
   rfl
  refine ⟨?_,fun s' h => ?_,fun r h => ?_⟩
  ·unfold cgrow_l4_pre
   dsimp only [letP]
   intro _
   rw [ek,Int.toNat_natCast,delZ_erase]
   exact ⟨⟨by omega,by omega⟩,hk,hk,by omega,⟨by omega,by omega,by omega⟩,hidx.1⟩
  ·rw [hst] at h
   cases h
   have hel : (free.eraseIdx k).length = free.length - 1 := List.length_eraseIdx_of_lt hk
   refine ⟨⟨_,_,_,rfl,fun i hi => hi.elim (hmem2 i) (hmem i),by rw [List.length_append,List.length_singleton,hel]; omega,?_⟩,?_⟩
   ·unfold findI
    cases n with
    | zero =>
     have h00 : free.eraseIdx k = [] := List.eq_nil_of_length_eq_zero (by omega)
     rw [h00]
     refine .inl ⟨rfl,?_⟩
     rw [← hRR,pick,h00]
    | succ n =>
     rw [pick] at hRR
     cases hfi : (free.eraseIdx k).findIdx? (fb m w (tris ++ [free.getD k 0])) with
     | none =>
      rw [hfi] at hRR
      exact .inl ⟨rfl,hRR.symm⟩
     | some j =>
      rw [hfi] at hRR
      have h1 := hfi
      rw [List.findIdx?_eq_some_iff_getElem] at h1
      obtain ⟨h1,_⟩ := h1
      exact .inr ⟨j,n,rfl,h1,by omega,hRR⟩
   ·show (free.eraseIdx k).length < free.length
    rw [hel]; omega
  ·rw [hst] at h; cases h
def growA (m : Msh) : Nat → List Int → List Chr → List Chr
 | 0,_,out => out
 | _ + 1,[],out => out
 | n + 1,a :: F,out => growA m n (pick m (Way m a).1 (F.length + 1) [a] F).2 (out ++ [((Way m a).1.1,((Way m a).1.2,(pick m (Way m a).1 (F.length + 1) [a] F).1))])
theorem growA_out {m : Msh} (hm : tameB m = true) : TR (cgrow_l2_step m) (cgrow_l2_pre m) (Free0 m,[]) (fun r => r = growA m (Free0 m).length (Free0 m) []) := by
 have hn := (mesh_len (tame_mesh hm)).2.2.2
 have hf := free0_len m
 generalize hR : growA m (Free0 m).length (Free0 m) [] = R
 refine TR.inv (fun s => ∃ n,s.1.length ≤ n ∧ growA m n s.1 s.2 = R ∧ s.1.Sublist (Free0 m) ∧ s.1.length + s.2.length ≤ 500) (fun s => s.1.length) (fun s hG => ?_) ⟨_,Nat.le_refl _,hR,List.Sublist.refl _,by simp; omega⟩
 obtain ⟨F,out⟩ := s
 obtain ⟨n,g1,g2,g3,g4⟩ := hG
 dsimp only at g1 g2 g3 g4
 have hsub := g3.length_le
 cases F with
 | nil =>
  refine ⟨?_,fun s' h => ?_,fun r h => ?_⟩
  ·unfold cgrow_l2_pre
   dsimp only
   intro h; simp at h
  ·unfold cgrow_l2_step at h
   dsimp only at h
   rw [if_neg (by simp)] at h
   cases h
  ·unfold cgrow_l2_step at h
   dsimp only at h
   rw [if_neg (by simp)] at h
   cases h
   rw [← g2]
   cases n <;> rfl
 | cons a F =>
  cases n with
  | zero => simp at g1
  | succ n =>
  have hA : ∀ i ∈ a :: F,Has m i := fun i hi => (way_has (free0_all m i (g3.subset hi))).1
  obtain ⟨h1,h2⟩ := bway_law hm a
  have hin := pick_in hm hA (by omega) (by simp) out (Way m a).1
  have hin2 := hin.2
  have e1 : (a :: F).getD 0 0 = a := rfl
  have e2 : (a :: F).eraseIdx 0 = F := rfl
  rw [e1,e2] at hin2
  have hpl := pick_len m (Way m a).1 (F.length + 1) [a] F
  rw [List.length_singleton] at hpl
  rw [List.length_cons] at g1 g4 hsub
  have hps := (pick_sub m (Way m a).1 (F.length + 1) [a] F)
  have hpsl := hps.length_le
  have hst : cgrow_l2_step m (a :: F,out) = .inl ((pick m (Way m a).1 (F.length + 1) [a] F).2,out ++ [((Way m a).1.1,((Way m a).1.2,(pick m (Way m a).1 (F.length + 1) [a] F).1))]) := by
   unfold cgrow_l2_step
   dsimp only [letV]
   rw [if_pos (by simp),e1,h2,hin2]
   rfl
  refine ⟨?_,fun s' h => ?_,fun r h => ?_⟩
  ·unfold cgrow_l2_pre
   dsimp only [letP]
   intro _
   rw [e1,h2,hin2]
   refine ⟨by simp,by simp,by simp,h1,hin.1,?_⟩
   dsimp only
   omega
  ·rw [hst] at h
   cases h
   refine ⟨⟨n,by dsimp only; omega,g2,?_,?_⟩,?_⟩
   ·exact hps.trans ((List.sublist_cons_self a F).trans g3)
   ·dsimp only
    rw [List.length_append,List.length_singleton]; omega
   ·show (pick m (Way m a).1 (F.length + 1) [a] F).2.length < (a :: F).length
    rw [List.length_cons]; omega
  ·rw [hst] at h; cases h
theorem cgrow_fun {m : Msh} (hm : tameB m = true) : cgrow m = (growA m (Free0 m).length (Free0 m) [],0) := by
 unfold cgrow
 dsimp only [letV]
 rw [(tame_law m).2,hm,if_neg (by decide),(grow_free hm).2,(growA_out hm).2]
theorem cis_bad_in {m : Msh} (hm : tameB m = true) (l : List Chr) (c : Chr) (hg : ¬ Good m (cw c) c.2.2) (hs : c.2.2.length ≤ 1000) (L : List Int) (hL : L.length ≤ 1000000) (idx:Nat) :
  TR (cis_l2_step (m,l)) (cis_l2_pre (m,l)) (Many m.2.2.2.length L,(c.1,(c.2.1,(c.2.2,(c.1,(c.2.1,([],((idx:Int),((c.2.2.length:Int),0))))))))) (fun r => r = .inl ()) := by
 have hn := (mesh_len (tame_mesh hm)).2.2.2
 refine for_loop c.2.2.length (fun j s => s = (Many m.2.2.2.length (L ++ c.2.2.take j),(c.1,(c.2.1,(c.2.2,(c.1,(c.2.1,(c.2.2.take j,((idx:Int),((c.2.2.length:Int),(j:Int)))))))))) ∧ ∀ k,k < j → FitsP m (cw c) (c.2.2.take k) (c.2.2.getD k 0)) _ (fun j s hj ⟨e,hgd⟩ => ?_) (fun s ⟨e,hgd⟩ => ?_) ⟨by simp,fun k hk => absurd hk (Nat.not_lt_zero _)⟩
 ·subst e
  have hway : ∀ k ∈ c.2.2.take j,Has m k := fun k hk => by
   obtain ⟨q,hq,e⟩ := mem_getD hk 0
   rw [List.length_take] at hq
   have := (hgd q (by omega)).way
   rw [List.getD_eq_getElem?_getD,List.getElem?_take,if_pos (by omega),← List.getD_eq_getElem?_getD] at e
   rw [e] at this
   exact (way_has this).1
  obtain ⟨p1,p2⟩ := pfits_any hm (w := cw c) (l := c.2.2.take j) (by rw [List.length_take]; omega) hway (c.2.2.getD j 0)
  have hlt : (L ++ c.2.2.take j).length ≤ 2000000 := by rw [List.length_append,List.length_take]; omega
  constructor
  ·unfold cis_l2_pre
   dsimp only [letP]
   intro _
   simp only [many_len,Int.toNat_natCast]
   refine ⟨⟨by omega,by omega⟩,hj,hj,p1,fun q => ?_⟩
   have hf : FitsP m (cw c) (c.2.2.take j) (c.2.2.getD j 0) := p2.1 (by simpa using q)
   have hh := (way_has hf.way).1
   refine ⟨?_,hh,by omega,by omega,hh,by omega,by omega⟩
   rw [List.length_take]; omega
  ·unfold cis_l2_step
   dsimp only [letV]
   rw [if_pos (by omega),Int.toNat_natCast]
   by_cases hf : FitsP m (cw c) (c.2.2.take j) (c.2.2.getD j 0)
   ·have hh := (way_has hf.way).1
    rw [show pfits ((m,((c.1,c.2.1),c.2.2.take j)),c.2.2.getD j 0) = true from p2.2 hf,if_neg (by decide),many_snoc hh hlt,cnt (n := 1000) (by omega) (by omega)]
    refine .inl ⟨_,rfl,?_,fun k hk => ?_⟩
    ·rw [take_snoc hj 0,List.append_assoc]
    ·rcases Nat.lt_or_ge k j with h1 | h1
     ·exact hgd k h1
     ·rw [show k = j by omega]; exact hf
   ·have hf' : pfits ((m,((c.1,c.2.1),c.2.2.take j)),c.2.2.getD j 0) = false := by
     cases h : pfits ((m,((c.1,c.2.1),c.2.2.take j)),c.2.2.getD j 0) with
     | false => rfl
     | true => exact absurd (p2.1 h) hf
    rw [hf',if_pos (by decide)]
    exact .inr ⟨_,rfl,rfl⟩
 ·exact absurd hgd hg
theorem cis_bad_out {m : Msh} (hm : tameB m = true) {l : List Chr} (hs : ∀ c ∈ l,c.2.2.length ≤ 1000) (hll : l.length ≤ 1000) (h : ¬ ∀ c ∈ l,c.2.2 ≠ [] ∧ Good m (cw c) c.2.2) : TR (cis_l0_step (m,l)) (cis_l0_pre (m,l)) (List.replicate m.2.2.2.length 0,0) (fun r => r = .inl ()) := by
 refine for_loop l.length (fun i s => s = (Many m.2.2.2.length ((l.take i).flatMap (·.2.2)),(i:Int)) ∧ ∀ c ∈ l.take i,c.2.2 ≠ [] ∧ Good m (cw c) c.2.2) _ (fun i s hi ⟨e,hgd⟩ => ?_) (fun s ⟨e,hgd⟩ => ?_) ⟨by rw [← many_nil]; rfl,by simp⟩
 ·subst e
  have hc : l.getD i zC ∈ l := getD_in hi zC
  have hL := flat_len (l := l.take i) fun c hc => hs c (List.mem_of_mem_take hc)
  have hL' : ((l.take i).flatMap (·.2.2)).length ≤ 1000000 := by rw [List.length_take] at hL; omega
  by_cases hg : Good m (cw (l.getD i zC)) (l.getD i zC).2.2
  ·have hin := cis_in hm l (l.getD i zC) hg (hs _ hc) ((l.take i).flatMap (·.2.2)) hL' i
   constructor
   ·unfold cis_l0_pre
    dsimp only
    intro _
    rw [Int.toNat_natCast]
    exact ⟨⟨by omega,by omega⟩,hi,hi,hin.1⟩
   ·unfold cis_l0_step
    dsimp only [letV]
    rw [if_pos (by omega),Int.toNat_natCast,hin.2]
    dsimp only [Sum.elim]
    by_cases hne : (l.getD i zC).2.2 = []
    ·rw [if_pos (by rw [show (l.getD i (0,(0,[]))).2.2 = [] from hne]; rfl)]
     exact .inr ⟨_,rfl,rfl⟩
    ·rw [if_neg (by simpa using hne),cnt (n := 1000) (by omega) (by omega)]
     refine .inl ⟨_,rfl,?_,fun c hc' => ?_⟩
     ·rw [take_snoc hi zC,List.flatMap_append]
      simp
     ·rw [take_snoc hi zC,List.mem_append,List.mem_singleton] at hc'
      rcases hc' with hc' | rfl
      ·exact hgd c hc'
      ·exact ⟨hne,hg⟩
  ·have hin := cis_bad_in hm l (l.getD i zC) hg (hs _ hc) ((l.take i).flatMap (·.2.2)) hL' i
   constructor
   ·unfold cis_l0_pre
    dsimp only
    intro _
    rw [Int.toNat_natCast]
    exact ⟨⟨by omega,by omega⟩,hi,hi,hin.1⟩
   ·unfold cis_l0_step
    dsimp only [letV]
    rw [if_pos (by omega),Int.toNat_natCast,hin.2]
    exact .inr ⟨_,rfl,rfl⟩
 ·rw [List.take_length] at hgd
  exact absurd hgd h
def IsP (m : Msh) (l : List Chr) : Prop := (∀ c ∈ l,c.2.2 ≠ [] ∧ Good m (cw c) c.2.2) ∧ ∀ k : Nat,k < m.2.2.2.length → (Way m k).2 = true → (l.flatMap (·.2.2)).count (k:Int) = 1
theorem cis_full {m : Msh} {l : List Chr} (hs : ∀ c ∈ l,c.2.2.length ≤ 1000) (hll : l.length ≤ 1000) : cis_pre (m,l) ∧ (cis (m,l) = true ↔ tameB m = true ∧ IsP m l) := by
 cases hm : tameB m with
 | false =>
  unfold cis_pre cis
  dsimp only [letP,letV]
  rw [(tame_law m).2,hm,if_pos (by decide)]
  exact ⟨⟨(tame_law m).1,fun h => absurd rfl h⟩,⟨fun h => (by cases h),fun h => (by cases h.1)⟩⟩
 | true =>
  by_cases hg : ∀ c ∈ l,c.2.2 ≠ [] ∧ Good m (cw c) c.2.2
  ·obtain ⟨h1,h2⟩ := cis_law hm (l := l) ⟨hg,hs,hll⟩
   exact ⟨h1,h2.trans ⟨fun h => ⟨rfl,hg,h⟩,fun h => h.2.2⟩⟩
  ·have hn := (mesh_len (tame_mesh hm)).2.2.2
   obtain ⟨o1,o2⟩ := cis_bad_out hm hs hll hg
   unfold cis_pre cis
   dsimp only [letP,letV]
   rw [(tame_law m).2,hm,if_neg (by decide),o2]
   exact ⟨⟨(tame_law m).1,fun _ => ⟨⟨by omega,by omega⟩,o1,trivial⟩⟩,⟨fun h => (by cases h),fun h => absurd h.2.1 hg⟩⟩
end Go.Proofs.YtkbmjhabfjgoiaaGreat
