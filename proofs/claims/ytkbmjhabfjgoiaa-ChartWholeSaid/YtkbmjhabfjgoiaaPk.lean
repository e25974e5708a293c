/- Plain laws: the document's rows; which meshes count. -/
import Derived.Test.YtkbmjhabfjgoiaaPi
import Derived.Test.YtkbmjhabfjgoiaaCc
noncomputable section
set_option linter.unusedSectionVars false
set_option linter.unusedVariables false
set_option linter.unusedSimpArgs false
namespace Go.Proofs.Ytkbmjhabfjgoiaa
open Go Go.Ev Go.Proofs
def mA : Msh := ([(0,(0,0)),(9,(0,0)),(9,(9,0)),(0,(9,0)),(9,(0,9))],([],([],[three (0,(1,2)),three (0,(2,3))])))
def mB : Msh := ([(0,(0,0)),(9,(0,0)),(9,(9,0)),(0,(0,9))],([],([],[three (0,(1,2)),three (0,(1,3))])))
def mC : Msh := ([(4097,(0,0))],([],([],[])))
theorem mA_tame : tameB mA = true := by kernel_rfl
theorem mB_tame : tameB mB = true := by kernel_rfl
theorem mC_tame : tameB mC = false := by kernel_rfl
theorem mA_free : Free0 mA = [0,1] := by kernel_rfl
theorem mB_free : Free0 mB = [0,1] := by kernel_rfl
theorem mA_way0 : Way mA 0 = ((2,1),true) := by kernel_rfl
theorem mA_way1 : Way mA 1 = ((2,1),true) := by kernel_rfl
theorem mB_way : ((Way mB 0).1 == (Way mB 1).1) = false := by kernel_rfl
theorem mA_over : ¬ Over mA 2 1 0 := by
 unfold Over
 have h1 : decide (Rt (Shd mA 1 2) ∧ Rt (Shd mA 0 2)) = true := by kernel_rfl
 rw [moverlap_law,if_pos (of_decide_eq_true h1)]
 have h2 : Ov (Shd mA 1 2) (Shd mA 0 2) = false := by kernel_rfl
 rw [h2]; decide
theorem mA_adj : Adj mA 1 0 := by
 refine ⟨by decide,by decide,(0,2),?_,?_⟩
 ·have : (Prs (Trg mA 1)).elem (0,2) = true := by kernel_rfl
  exact List.elem_iff.1 this
 ·have : (Prs (Trg mA 0)).elem (0,2) = true := by kernel_rfl
  exact List.elem_iff.1 this
theorem pos_of {l : List Int} (h : l ≠ []) : 0 < l.length := List.length_pos_iff.2 h
theorem mA_grown {out : List Chr} (h : Grown mA (Free0 mA) [] out) : out.length = 1 ∧ (out.getD 0 zC).2.2.length = 2 := by
 have hp := h.perm
 rw [List.append_nil,mA_free] at hp
 have hl := hp.length_eq
 match out,h,hp,hl with
 | [],h,hp,hl => simp at hl
 | [c],h,hp,hl => simpa using hl
 | c :: d :: r,h,hp,hl =>
  exfalso
  have h1 := (h.good c (by simp)).1
  have h2 := (h.good d (by simp)).1
  have h3 := pos_of h1
  have h4 := pos_of h2
  rw [List.flatMap_cons,List.flatMap_cons,List.length_append,List.length_append] at hl
  simp only [List.length_cons,List.length_nil] at hl
  obtain ⟨x,hx⟩ : ∃ x,c.2.2 = [x] := List.length_eq_one_iff.1 (by omega)
  obtain ⟨y,hy⟩ : ∃ y,d.2.2 = [y] := List.length_eq_one_iff.1 (by omega)
  have m1 : x ∈ [0,1] := hp.subset (by simp [hx])
  have m2 : y ∈ [(0:Int),1] := hp.subset (by simp [hy])
  have hr := (List.pairwise_cons.1 h.rise).1 d (by simp) y (by simp [hy])
  have hf := (List.pairwise_cons.1 h.full).1 d (by simp) y (by simp [hy])
  rw [hx] at hr hf
  have hr : x < y := hr
  simp only [List.mem_cons,List.mem_nil_iff,or_false] at m1 m2
  obtain rfl : x = 0 := by omega
  obtain rfl : y = 1 := by omega
  have hw := good_way (h.good c (by simp)).2 (i := 0) (by simp [hx])
  rw [mA_way0] at hw
  have hw : ((2:Int),(1:Int)) = cw c := congrArg Prod.fst hw
  rw [← hw] at hf
  exact hf ⟨mA_way1,by decide,fun k hk => by
   rw [List.mem_singleton.1 hk]; exact mA_over,.inr ⟨0,by simp,mA_adj⟩⟩
theorem mB_grown {out : List Chr} (h : Grown mB (Free0 mB) [] out) : out.length = 2 := by
 have hp := h.perm
 rw [List.append_nil,mB_free] at hp
 have hl := hp.length_eq
 match out,h,hp,hl with
 | [],h,hp,hl => simp at hl
 | [c],h,hp,hl =>
  exfalso
  have w0 := good_way (h.good c (by simp)).2 (i := 0) (by
   have := hp.symm.subset (a := 0) (by simp)
   simpa using this)
  have w1 := good_way (h.good c (by simp)).2 (i := 1) (by
   have := hp.symm.subset (a := 1) (by simp)
   simpa using this)
  have := mB_way
  rw [w0,w1] at this
  simp at this
 | [c,d],h,hp,hl => rfl
 | c :: d :: e :: r,h,hp,hl =>
  exfalso
  have h1 := pos_of (h.good c (by simp)).1
  have h2 := pos_of (h.good d (by simp)).1
  have h3 := pos_of (h.good e (by simp)).1
  rw [List.flatMap_cons,List.flatMap_cons,List.flatMap_cons,List.length_append,List.length_append,List.length_append] at hl
  simp only [List.length_cons,List.length_nil] at hl
  omega
theorem mA_isnil : cis_pre (mA,[]) ∧ cis (mA,[]) = false := by
 obtain ⟨h1,h2⟩ := cis_law mA_tame (l := []) ⟨by simp,by simp,by simp⟩
 refine ⟨h1,?_⟩
 cases h : cis (mA,[]) with
 | false => rfl
 | true =>
  have := h2.1 h 0 (by decide) (by rw [show ((0:Nat):Int) = 0 from rfl,mA_way0])
  simp at this
theorem charted_law : charted_pre false ∧ charted false = true := by
 have hA := (cgrow_law mA).2.1 mA_tame
 have hB := (cgrow_law mB).2.1 mB_tame
 have hC := (cgrow_law mC).2.2 mC_tame
 obtain ⟨a1,a2⟩ := mA_grown hA.2
 have b1 := mB_grown hB.2
 obtain ⟨i1,i2⟩ := hA.2.is mA_tame
 obtain ⟨n1,n2⟩ := mA_isnil
 have f1 : facing (mA,0) = (2,(1,true)) := by
  rw [(facing_law mA 0).2]; kernel_rfl
 have s1 : shadow (mA,(1,2)) = (((0,0),((9,9),(0,9))),0) := by
  rw [(shadow_law mA 1 2).2]; kernel_rfl
 have t1 : tame mA = true := (tame_law mA).2.trans mA_tame
 constructor
 ·unfold charted_pre
  dsimp only [letP]
  show cgrow_pre mA ∧ cgrow_pre mB ∧ facing_pre (mA,0) ∧ cgrow_pre mC ∧ shadow_pre (mA,(1,2)) ∧ _
  refine ⟨(cgrow_law mA).1,(cgrow_law mB).1,(facing_law mA 0).1,(cgrow_law mC).1,(shadow_law mA 1 2).1,fun _ _ => ?_⟩
  show ((0:Int) < (((cgrow mA).1.length:Nat):Int)) ∧ 0 < (cgrow mA).1.length ∧ 0 < (cgrow mA).1.length ∧ 0 < (cgrow mA).1.length ∧ _
  rw [a1]
  refine ⟨by decide,by decide,by decide,by decide,fun _ _ _ _ _ _ _ _ _ => ?_⟩
  show cis_pre (mA,(cgrow mA).1) ∧ (cis (mA,(cgrow mA).1) = true → cis_pre (mA,[]) ∧ ((!cis (mA,[])) = true → tame_pre mA))
  exact ⟨i1,fun _ => ⟨n1,fun _ => (tame_law mA).1⟩⟩
 ·unfold charted
  dsimp only [letV]
  show (if ((cgrow mA).2 == 0) = true then _ else false) = true
  rw [hA.1,if_pos (by decide)]
  show (if ((((cgrow mA).1.length:Nat):Int) == 1) = true then _ else false) = true
  rw [a1,if_pos (by decide)]
  show (if (((((cgrow mA).1.getD 0 zC).2.2.length:Nat):Int) == 2) = true then _ else false) = true
  rw [a2,if_pos (by decide)]
  show (if ((cgrow mB).2 == (cgrow mA).2) = true then _ else false) = true
  rw [hB.1,hA.1,if_pos (by decide)]
  show (if ((((cgrow mB).1.length:Nat):Int) == 2) = true then _ else false) = true
  rw [b1,if_pos (by decide)]
  show (if (facing (mA,0)).2.2 = true then (if ((facing (mA,0)).1 == 2) = true then (if ((facing (mA,0)).2.1 == 1) = true then (if ((cgrow mC).2 == 1) = true then (if ((shadow (mA,(1,2))).2 == (cgrow mA).2) = true then _ else false) else false) else false) else false) else false) = true
  rw [f1,if_pos (by decide),if_pos (by decide),if_pos (by decide),hC,if_pos (by decide),s1,hA.1,if_pos (by decide)]
  show (if ((((shadow (mA,(1,2))).1.1.1 == 0) && (((shadow (mA,(1,2))).1.1.2 == 0) && true)) && ((((shadow (mA,(1,2))).1.2.1.1 == 9) && (((shadow (mA,(1,2))).1.2.1.2 == 9) && true)) && ((((shadow (mA,(1,2))).1.2.2.1 == 0) && (((shadow (mA,(1,2))).1.2.2.2 == 9) && true)) && true))) = true then _ else false) = true
  rw [s1,if_pos (by decide)]
  show (if cis (mA,(cgrow mA).1) = true then (if (!cis (mA,[])) = true then tame mA else false) else false) = true
  rw [if_pos i2,n2,if_pos (by decide),t1]
theorem few15_law (m : Msh) : few15_pre (m,[]) ∧ (few15 (m,[]) = true → m.1.length ≤ 20 ∧ m.2.1.length ≤ 60 ∧ m.2.2.1.length ≤ 60 ∧ m.2.2.2.length ≤ 12) := by
 have key : TR (few15_l0_step (m,[])) (few15_l0_pre (m,[])) 0 (fun r => r = .inr ()) := by
  refine TR.stop ?_ (r := .inr ()) ?_ rfl
  ·unfold few15_l0_pre
   dsimp only
   intro h; simp at h
  ·unfold few15_l0_step
   dsimp only
   rw [if_neg (by simp)]
 refine ⟨key.1,fun h => ?_⟩
 unfold few15 at h
 dsimp only [letV] at h
 rw [key.2] at h
 dsimp only [Sum.elim] at h
 rw [if_pos (by decide)] at h
 unfold few14 at h
 by_cases h1 : ((m.1.length:Nat):Int) ≤ 20
 ·by_cases h2 : ((m.2.1.length:Nat):Int) ≤ 60
  ·by_cases h3 : ((m.2.2.1.length:Nat):Int) ≤ 60
   ·by_cases h4 : ((m.2.2.2.length:Nat):Int) ≤ 20
    ·rw [if_pos h1,if_pos h2,if_pos h3,decide_eq_true h4,if_pos rfl] at h
     have h := of_decide_eq_true h
     omega
    ·rw [if_pos h1,if_pos h2,if_pos h3,decide_eq_false h4,if_neg (by decide)] at h; cases h
   ·rw [if_pos h1,if_pos h2,if_neg h3,if_neg (by decide)] at h; cases h
  ·rw [if_pos h1,if_neg h2,if_neg (by decide)] at h; cases h
 ·rw [if_neg h1,if_neg (by decide)] at h; cases h
end Go.Proofs.Ytkbmjhabfjgoiaa

namespace Go.Proofs.Ytkbmjhabfjgoiaa
open Go Go.Ev Go.Proofs
end Go.Proofs.Ytkbmjhabfjgoiaa

namespace Go.Proofs.Ytkbmjhabfjgoiaa
open Go Go.Ev Go.Proofs
theorem rg {n k : Nat} (h : n < k) : (0:Int) ≤ (n:Int) ∧ (n:Int) < (k:Int) := ⟨by omega,by omega⟩
theorem letP_i {α : Type} {v : α} {f : α → Prop} (h : f v) : letP v f := h
theorem cS_r {α β : Type} {x : α ⊕ β} {b : β} {f : α → Prop} {g : β → Prop} (e : x = .inr b) (h : g b) : cS x f g := by subst e; exact h
theorem letV_e {α β : Type} (v : α) (f : α → β) : letV v f = f v := rfl
theorem tame_cases (m : Msh) : (tameB m = true ∧ (cgrow m).2 = 0 ∧ Grown m (Free0 m) [] (cgrow m).1) ∨ (tameB m = false ∧ (cgrow m).2 = 1 ∧ (cgrow m).1 = []) := by
 obtain ⟨g1,g2,g3⟩ := cgrow_law m
 cases h : tameB m with
 | true => exact .inl ⟨rfl,g2 h⟩
 | false => exact .inr ⟨rfl,by rw [g3 h],by rw [g3 h]⟩
end Go.Proofs.Ytkbmjhabfjgoiaa
