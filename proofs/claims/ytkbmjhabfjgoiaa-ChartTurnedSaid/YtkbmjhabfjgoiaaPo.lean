/- Plain laws: the document's rows; which meshes count. -/
import Derived.Test.YtkbmjhabfjgoiaaPi
import Derived.Test.YtkbmjhabfjgoiaaCc
noncomputable section
set_option linter.unusedSectionVars false
set_option linter.unusedVariables false
set_option linter.unusedSimpArgs false
namespace Go.Proofs.Ytkbmjhabfjgoiaa
open Go Go.Ev Go.Proofs
def mA : Msh := ([(0,(0,0)),(9,(0,0)),(9,(9,0)),(0,(9,0)),(9,(0,9))],([],([],[three (0,(1,2)),three (0,(2,3))])))
def mB : Msh := ([(0,(0,0)),(9,(0,0)),(9,(9,0)),(0,(0,9))],([],([],[three (0,(1,2)),three (0,(1,3))])))
def mC : Msh := ([(4097,(0,0))],([],([],[])))
theorem mA_tame : tameB mA = true := by kernel_rfl
theorem mB_tame : tameB mB = true := by kernel_rfl
theorem mC_tame : tameB mC = false := by kernel_rfl
theorem mA_free : Free0 mA = [0,1] := by kernel_rfl
theorem mB_free : Free0 mB = [0,1] := by kernel_rfl
theorem mA_way0 : Way mA 0 = ((2,1),true) := by kernel_rfl
theorem mA_way1 : Way mA 1 = ((2,1),true) := by kernel_rfl
theorem mB_way : ((Way mB 0).1 == (Way mB 1).1) = false := by kernel_rfl
theorem mA_over : ¬ Over mA 2 1 0 := by
 unfold Over
 have h1 : decide (Rt (Shd mA 1 2) ∧ Rt (Shd mA 0 2)) = true := by kernel_rfl
 rw [moverlap_law,if_pos (of_decide_eq_true h1)]
 have h2 : Ov (Shd mA 1 2) (Shd mA 0 2) = false := by kernel_rfl
 rw [h2]; decide
theorem mA_adj : Adj mA 1 0 := by
 refine ⟨by decide,by decide,(0,2),?_,?_⟩
 ·have : (Prs (Trg mA 1)).elem (0,2) = true := by kernel_rfl
  exact List.elem_iff.1 this
 ·have : (Prs (Trg mA 0)).elem (0,2) = true := by kernel_rfl
  exact List.elem_iff.1 this
theorem pos_of {l : List Int} (h : l ≠ []) : 0 < l.length := List.length_pos_iff.2 h
theorem mA_grown {out : List Chr} (h : Grown mA (Free0 mA) [] out) : out.length = 1 ∧ (out.getD 0 zC).2.2.length = 2 := by
 have hp := h.perm
 rw [List.append_nil,mA_free] at hp
 have hl := hp.length_eq
 match out,h,hp,hl with
 | [],h,hp,hl => simp at hl
 | [c],h,hp,hl => simpa using hl
 | c :: d :: r,h,hp,hl =>
  exfalso
  have h1 := (h.good c (by simp)).1
  have h2 := (h.good d (by simp)).1
  have h3 := pos_of h1
  have h4 := pos_of h2
  rw [List.flatMap_cons,List.flatMap_cons,List.length_append,List.length_append] at hl
  simp only [List.length_cons,List.length_nil] at hl
  obtain ⟨x,hx⟩ : ∃ x,c.2.2 = [x] := List.length_eq_one_iff.1 (by omega)
  obtain ⟨y,hy⟩ : ∃ y,d.2.2 = [y] := List.length_eq_one_iff.1 (by omega)
  have m1 : x ∈ [0,1] := hp.subset (by simp [hx])
  have m2 : y ∈ [(0:Int),1] := hp.subset (by simp [hy])
  have hr := (List.pairwise_cons.1 h.rise).1 d (by simp) y (by simp [hy])
  have hf := (List.pairwise_cons.1 h.full).1 d (by simp) y (by simp [hy])
  rw [hx] at hr hf
  have hr : x < y := hr
  simp only [List.mem_cons,List.mem_nil_iff,or_false] at m1 m2
  obtain rfl : x = 0 := by omega
  obtain rfl : y = 1 := by omega
  have hw := good_way (h.good c (by simp)).2 (i := 0) (by simp [hx])
  rw [mA_way0] at hw
  have hw : ((2:Int),(1:Int)) = cw c := congrArg Prod.fst hw
  rw [← hw] at hf
  exact hf ⟨mA_way1,by decide,fun k hk => by
   rw [List.mem_singleton.1 hk]; exact mA_over,.inr ⟨0,by simp,mA_adj⟩⟩
theorem mB_grown {out : List Chr} (h : Grown mB (Free0 mB) [] out) : out.length = 2 := by
 have hp := h.perm
 rw [List.append_nil,mB_free] at hp
 have hl := hp.length_eq
 match out,h,hp,hl with
 | [],h,hp,hl => simp at hl
 | [c],h,hp,hl =>
  exfalso
  have w0 := good_way (h.good c (by simp)).2 (i := 0) (by
   have := hp.symm.subset (a := 0) (by simp)
   simpa using this)
  have w1 := good_way (h.good c (by simp)).2 (i := 1) (by
   have := hp.symm.subset (a := 1) (by simp)
   simpa using this)
  have := mB_way
  rw [w0,w1] at this
  simp at this
 | [c,d],h,hp,hl => rfl
 | c :: d :: e :: r,h,hp,hl =>
  exfalso
  have h1 := pos_of (h.good c (by simp)).1
  have h2 := pos_of (h.good d (by simp)).1
  have h3 := pos_of (h.good e (by simp)).1
  rw [List.flatMap_cons,List.flatMap_cons,List.flatMap_cons,List.length_append,List.length_append,List.length_append] at hl
  simp only [List.length_cons,List.length_nil] at hl
  omega
theorem mA_isnil : cis_pre (mA,[]) ∧ cis (mA,[]) = false := by
 obtain ⟨h1,h2⟩ := cis_law mA_tame (l := []) ⟨by simp,by simp,by simp⟩
 refine ⟨h1,?_⟩
 cases h : cis (mA,[]) with
 | false => rfl
 | true =>
  have := h2.1 h 0 (by decide) (by rw [show ((0:Nat):Int) = 0 from rfl,mA_way0])
  simp at this
theorem charted_law : charted_pre false ∧ charted false = true := by
 have hA := (cgrow_law mA).2.1 mA_tame
 have hB := (cgrow_law mB).2.1 mB_tame
 have hC := (cgrow_law mC).2.2 mC_tame
 obtain ⟨a1,a2⟩ := mA_grown hA.2
 have b1 := mB_grown hB.2
 obtain ⟨i1,i2⟩ := hA.2.is mA_tame
 obtain ⟨n1,n2⟩ := mA_isnil
 have f1 : facing (mA,0) = (2,(1,true)) := by
  rw [(facing_law mA 0).2]; kernel_rfl
 have s1 : shadow (mA,(1,2)) = (((0,0),((9,9),(0,9))),0) := by
  rw [(shadow_law mA 1 2).2]; kernel_rfl
 have t1 : tame mA = true := (tame_law mA).2.trans mA_tame
 constructor
 ·unfold charted_pre
  dsimp only [letP]
  show cgrow_pre mA ∧ cgrow_pre mB ∧ facing_pre (mA,0) ∧ cgrow_pre mC ∧ shadow_pre (mA,(1,2)) ∧ _
  refine ⟨(cgrow_law mA).1,(cgrow_law mB).1,(facing_law mA 0).1,(cgrow_law mC).1,(shadow_law mA 1 2).1,fun _ _ => ?_⟩
  show ((0:Int) < (((cgrow mA).1.length:Nat):Int)) ∧ 0 < (cgrow mA).1.length ∧ 0 < (cgrow mA).1.length ∧ 0 < (cgrow mA).1.length ∧ _
  rw [a1]
  refine ⟨by decide,by decide,by decide,by decide,fun _ _ _ _ _ _ _ _ _ => ?_⟩
  show cis_pre (mA,(cgrow mA).1) ∧ (cis (mA,(cgrow mA).1) = true → cis_pre (mA,[]) ∧ ((!cis (mA,[])) = true → tame_pre mA))
  exact ⟨i1,fun _ => ⟨n1,fun _ => (tame_law mA).1⟩⟩
 ·unfold charted
  dsimp only [letV]
  show (if ((cgrow mA).2 == 0) = true then _ else false) = true
  rw [hA.1,if_pos (by decide)]
  show (if ((((cgrow mA).1.length:Nat):Int) == 1) = true then _ else false) = true
  rw [a1,if_pos (by decide)]
  show (if (((((cgrow mA).1.getD 0 zC).2.2.length:Nat):Int) == 2) = true then _ else false) = true
  rw [a2,if_pos (by decide)]
  show (if ((cgrow mB).2 == (cgrow mA).2) = true then _ else false) = true
  rw [hB.1,hA.1,if_pos (by decide)]
  show (if ((((cgrow mB).1.length:Nat):Int) == 2) = true then _ else false) = true
  rw [b1,if_pos (by decide)]
  show (if (facing (mA,0)).2.2 = true then (if ((facing (mA,0)).1 == 2) = true then (if ((facing (mA,0)).2.1 == 1) = true then (if ((cgrow mC).2 == 1) = true then (if ((shadow (mA,(1,2))).2 == (cgrow mA).2) = true then _ else false) else false) else false) else false) else false) = true
  rw [f1,if_pos (by decide),if_pos (by decide),if_pos (by decide),hC,if_pos (by decide),s1,hA.1,if_pos (by decide)]
  show (if ((((shadow (mA,(1,2))).1.1.1 == 0) && (((shadow (mA,(1,2))).1.1.2 == 0) && true)) && ((((shadow (mA,(1,2))).1.2.1.1 == 9) && (((shadow (mA,(1,2))).1.2.1.2 == 9) && true)) && ((((shadow (mA,(1,2))).1.2.2.1 == 0) && (((shadow (mA,(1,2))).1.2.2.2 == 9) && true)) && true))) = true then _ else false) = true
  rw [s1,if_pos (by decide)]
  show (if cis (mA,(cgrow mA).1) = true then (if (!cis (mA,[])) = true then tame mA else false) else false) = true
  rw [if_pos i2,n2,if_pos (by decide),t1]
theorem few15_law (m : Msh) : few15_pre (m,[]) ∧ (few15 (m,[]) = true → m.1.length ≤ 20 ∧ m.2.1.length ≤ 60 ∧ m.2.2.1.length ≤ 60 ∧ m.2.2.2.length ≤ 12) := by
 have key : TR (few15_l0_step (m,[])) (few15_l0_pre (m,[])) 0 (fun r => r = .inr ()) := by
  refine TR.stop ?_ (r := .inr ()) ?_ rfl
  ·unfold few15_l0_pre
   dsimp only
   intro h; simp at h
  ·unfold few15_l0_step
   dsimp only
   rw [if_neg (by simp)]
 refine ⟨key.1,fun h => ?_⟩
 unfold few15 at h
 dsimp only [letV] at h
 rw [key.2] at h
 dsimp only [Sum.elim] at h
 rw [if_pos (by decide)] at h
 unfold few14 at h
 by_cases h1 : ((m.1.length:Nat):Int) ≤ 20
 ·by_cases h2 : ((m.2.1.length:Nat):Int) ≤ 60
  ·by_cases h3 : ((m.2.2.1.length:Nat):Int) ≤ 60
   ·by_cases h4 : ((m.2.2.2.length:Nat):Int) ≤ 20
    ·rw [if_pos h1,if_pos h2,if_pos h3,decide_eq_true h4,if_pos rfl] at h
     have h := of_decide_eq_true h
     omega
    ·rw [if_pos h1,if_pos h2,if_pos h3,decide_eq_false h4,if_neg (by decide)] at h; cases h
   ·rw [if_pos h1,if_pos h2,if_neg h3,if_neg (by decide)] at h; cases h
  ·rw [if_pos h1,if_neg h2,if_neg (by decide)] at h; cases h
 ·rw [if_neg h1,if_neg (by decide)] at h; cases h
end Go.Proofs.Ytkbmjhabfjgoiaa

namespace Go.Proofs.Ytkbmjhabfjgoiaa
open Go Go.Ev Go.Proofs
end Go.Proofs.Ytkbmjhabfjgoiaa

namespace Go.Proofs.Ytkbmjhabfjgoiaa
open Go Go.Ev Go.Proofs
theorem rg {n k : Nat} (h : n < k) : (0:Int) ≤ (n:Int) ∧ (n:Int) < (k:Int) := ⟨by omega,by omega⟩
theorem letP_i {α : Type} {v : α} {f : α → Prop} (h : f v) : letP v f := h
theorem letV_e {α β : Type} (v : α) (f : α → β) : letV v f = f v := rfl
theorem tame_cases (m : Msh) : (tameB m = true ∧ (cgrow m).2 = 0 ∧ Grown m (Free0 m) [] (cgrow m).1) ∨ (tameB m = false ∧ (cgrow m).2 = 1 ∧ (cgrow m).1 = []) := by
 obtain ⟨g1,g2,g3⟩ := cgrow_law m
 cases h : tameB m with
 | true => exact .inl ⟨rfl,g2 h⟩
 | false => exact .inr ⟨rfl,by rw [g3 h],by rw [g3 h]⟩
end Go.Proofs.Ytkbmjhabfjgoiaa

namespace Go.Proofs.Ytkbmjhabfjgoiaa
open Go Go.Ev Go.Proofs
def chartTurned_l0 (x : ((List I3) × ((List I2) × ((List I3) × (List I9))))) : LoopD := ⟨[],⟨pvs 81 0 [(1,.v (.one (.ptr 0 0))),(3,.v (.one (.ptr 5 0))),(4,.v (.one (.i .i64)))],[.cells [.full 1,.full 2,.full 3,.full 4] 26,.row yy3 0,.row yy2 0,.row yy3 0,.row yy9 0,.cells [.full 6,.full 7,.full 8,.full 9] 26,.row yy3 2,.row yy2 2,.row yy3 2,.row yy9 2],0,none,[],[1,2,3,4],[5,6,7,8,0],[(.l yy3),(.l yy2),(.l yy3),(.l yy9),.i],[.l yy3 x.1,.l yy2 x.2.1,.l yy3 x.2.2.1,.l yy9 x.2.2.2]⟩,[⟨(.exit 0),.normal,⟨pvs 81 0 [(1,.v (.one (.ptr 0 0))),(3,.v (.one (.ptr 5 0)))],[.cells [.full 1,.full 2,.full 3,.full 4] 26,.row yy3 0,.row yy2 0,.row yy3 0,.row yy9 0,.cells [.full 6,.full 7,.full 8,.full 9] 26,.row yy3 2,.row yy2 2,.row yy3 2,.row yy9 2],0,none,[],[0,1,2,3],[4,5,6,7],[(.l yy3),(.l yy2),(.l yy3),(.l yy9)],[.l yy3 x.1,.l yy2 x.2.1,.l yy3 x.2.2.1,.l yy9 x.2.2.2]⟩⟩]⟩
def chartTurned_l0_step (x : ((List I3) × ((List I2) × ((List I3) × (List I9))))) (s : ((List I3) × ((List I2) × ((List I3) × ((List I9) × Int))))) : ((List I3) × ((List I2) × ((List I3) × ((List I9) × Int)))) ⊕ ((List I3) × ((List I2) × ((List I3) × (List I9)))) :=
 (if (s.2.2.2.2 < (s.2.2.2.1.length:Int)) then
 (letV (List.set s.2.2.2.1 (Int.toNat s.2.2.2.2) ((List.getD s.2.2.2.1 (Int.toNat s.2.2.2.2) (((0:Int),((0:Int),(0:Int))),(((0:Int),((0:Int),(0:Int))),((0:Int),((0:Int),(0:Int)))))).2.1,((List.getD s.2.2.2.1 (Int.toNat s.2.2.2.2) (((0:Int),((0:Int),(0:Int))),(((0:Int),((0:Int),(0:Int))),((0:Int),((0:Int),(0:Int)))))).1,(List.getD s.2.2.2.1 (Int.toNat s.2.2.2.2) (((0:Int),((0:Int),(0:Int))),(((0:Int),((0:Int),(0:Int))),((0:Int),((0:Int),(0:Int)))))).2.2))) fun y =>
 (Sum.inl (s.1,(s.2.1,(s.2.2.1,(y,(w64 (s.2.2.2.2 + (1:Int))))))))) else
 (Sum.inr ((s.1,(s.2.1,(s.2.2.1,s.2.2.2.1))))))
def chartTurned_l0_pre (x : ((List I3) × ((List I2) × ((List I3) × (List I9))))) (s : ((List I3) × ((List I2) × ((List I3) × ((List I9) × Int))))) : Prop :=
 ((s.2.2.2.2 < (s.2.2.2.1.length:Int)) →
 ((((0:Int) ≤ s.2.2.2.2) ∧ (s.2.2.2.2 < (s.2.2.2.1.length:Int))) ∧
 (((Int.toNat s.2.2.2.2) < (List.length s.2.2.2.1)) ∧
 (((Int.toNat s.2.2.2.2) < (List.length s.2.2.2.1)) ∧
 ((((0:Int) ≤ s.2.2.2.2) ∧ (s.2.2.2.2 < (s.2.2.2.1.length:Int))) ∧
 (((Int.toNat s.2.2.2.2) < (List.length s.2.2.2.1)) ∧
 ((Int.toNat s.2.2.2.2) < (List.length s.2.2.2.1))))))))
def chartTurned_l0_t (x : ((List I3) × ((List I2) × ((List I3) × (List I9))))) (s : ((List I3) × ((List I2) × ((List I3) × ((List I9) × Int))))) : Tr (((List I3) × ((List I2) × ((List I3) × ((List I9) × Int)))) ⊕ ((List I3) × ((List I2) × ((List I3) × (List I9))))) true :=
 (.i10 (s.2.2.2.2 < (nL s.2.2.2.1))
 (.oI2 s.2.2.2.2 s.2.2.2.1
 (.oI2 s.2.2.2.2 s.2.2.2.1
 (.lt (List.set s.2.2.2.1 (tN s.2.2.2.2) ((gT s.2.2.2.1 s.2.2.2.2 zz9).2.1,((gT s.2.2.2.1 s.2.2.2.2 zz9).1,(gT s.2.2.2.1 s.2.2.2.2 zz9).2.2))) fun y =>
 (.ret (.inl (s.1,(s.2.1,(s.2.2.1,(y,(w1 s.2.2.2.2))))))))))
 (.ret (.inr ((s.1,(s.2.1,(s.2.2.1,s.2.2.2.1)))))))
def chartTurned_l2 (x : ((List I3) × ((List I2) × ((List I3) × (List I9))))) : LoopD := ⟨[],⟨pvs 81 0 [(6,.v (.one (.full 0))),(8,.v (.one (.full 1))),(10,.v (.one (.i .i64)))],[.row (Ty.prod yi (Ty.prod yi (Ty.sl yi))) 2,.row (Ty.prod yi (Ty.prod yi (Ty.sl yi))) 2],0,none,[],[],[1,2,0],[(.l (Ty.prod yi (Ty.prod yi (Ty.sl yi)))),(.l (Ty.prod yi (Ty.prod yi (Ty.sl yi)))),.i],[]⟩,[⟨(.exit 2),.normal,⟨pvs 81 0 [(6,.v (.one (.full 0))),(8,.v (.one (.full 1)))],[.row (Ty.prod yi (Ty.prod yi (Ty.sl yi))) 2,.row (Ty.prod yi (Ty.prod yi (Ty.sl yi))) 2],0,none,[],[],[0,1],[(.l (Ty.prod yi (Ty.prod yi (Ty.sl yi)))),(.l (Ty.prod yi (Ty.prod yi (Ty.sl yi))))],[]⟩⟩]⟩
def chartTurned_l2_step (x : ((List I3) × ((List I2) × ((List I3) × (List I9))))) (s : ((List (Int × (Int × (List Int)))) × ((List (Int × (Int × (List Int)))) × Int))) : ((List (Int × (Int × (List Int)))) × ((List (Int × (Int × (List Int)))) × Int)) ⊕ ((List (Int × (Int × (List Int)))) × (List (Int × (Int × (List Int))))) :=
 (if (s.2.2 < (s.1.length:Int)) then
 (letV (List.set s.2.1 (Int.toNat s.2.2) ((List.getD s.2.1 (Int.toNat s.2.2) ((0:Int),((0:Int),[]))).1,((w64 ((0:Int) - (List.getD s.2.1 (Int.toNat s.2.2) ((0:Int),((0:Int),[]))).2.1)),(List.getD s.2.1 (Int.toNat s.2.2) ((0:Int),((0:Int),[]))).2.2))) fun y =>
 (Sum.inl (s.1,(y,(w64 (s.2.2 + (1:Int))))))) else
 (Sum.inr ((s.1,s.2.1))))
def chartTurned_l2_pre (x : ((List I3) × ((List I2) × ((List I3) × (List I9))))) (s : ((List (Int × (Int × (List Int)))) × ((List (Int × (Int × (List Int)))) × Int))) : Prop :=
 ((s.2.2 < (s.1.length:Int)) →
 ((((0:Int) ≤ s.2.2) ∧ (s.2.2 < (s.2.1.length:Int))) ∧
 (((Int.toNat s.2.2) < (List.length s.2.1)) ∧
 (((Int.toNat s.2.2) < (List.length s.2.1)) ∧
 (((Int.toNat s.2.2) < (List.length s.2.1)) ∧
 ((((0:Int) ≤ s.2.2) ∧ (s.2.2 < (s.2.1.length:Int))) ∧
 (((Int.toNat s.2.2) < (List.length s.2.1)) ∧
 (((Int.toNat s.2.2) < (List.length s.2.1)) ∧
 ((Int.toNat s.2.2) < (List.length s.2.1))))))))))
def chartTurned_l2_t (x : ((List I3) × ((List I2) × ((List I3) × (List I9))))) (s : ((List (Int × (Int × (List Int)))) × ((List (Int × (Int × (List Int)))) × Int))) : Tr (((List (Int × (Int × (List Int)))) × ((List (Int × (Int × (List Int)))) × Int)) ⊕ ((List (Int × (Int × (List Int)))) × (List (Int × (Int × (List Int)))))) true :=
 (.i10 (s.2.2 < (nL s.1))
 (.oI3 s.2.2 s.2.1
 (.oI3 s.2.2 s.2.1
 (.lt (List.set s.2.1 (tN s.2.2) ((gT s.2.1 s.2.2 (z0,(z0,[]))).1,((w64 (z0 - (gT s.2.1 s.2.2 (z0,(z0,[]))).2.1)),(gT s.2.1 s.2.2 (z0,(z0,[]))).2.2))) fun y =>
 (.ret (.inl (s.1,(y,(w1 s.2.2))))))))
 (.ret (.inr ((s.1,s.2.1)))))
def chartTurned (x : ((List I3) × ((List I2) × ((List I3) × (List I9))))) : Bool :=
 (letV (few15 (x,[])) fun y =>
 (if ((!y) = true) then
 true else
 (letV (own08 x) fun y_1 =>
 (letV (run (chartTurned_l0_step x) (y_1.1,(y_1.2.1,(y_1.2.2.1,(y_1.2.2.2,(0:Int)))))) fun r =>
 (letV (cgrow x) fun y_2 =>
 (letV (cgrow r) fun y_3 =>
 (if ((y_2.2 != y_3.2) = true) then
 false else
 (if (((y_2.1.length:Int) != (y_3.1.length:Int)) = true) then
 false else
 (letV (run (chartTurned_l2_step x) (y_2.1,(y_3.1,(0:Int)))) fun r_1 =>
 (letV (charted false) fun y_4 =>
 (if (y_4 = true) then
 (letV (same15 r_1) fun y_5 =>
 y_5) else
 false)))))))))))
def chartTurned_pre (x : ((List I3) × ((List I2) × ((List I3) × (List I9))))) : Prop :=
 ((few15_pre (x,[])) ∧
 letP (few15 (x,[])) fun y =>
 (¬ ((!y) = true) →
 ((own08_pre x) ∧
 letP (own08 x) fun y_1 =>
 (Term (chartTurned_l0_step x) (chartTurned_l0_pre x) (y_1.1,(y_1.2.1,(y_1.2.2.1,(y_1.2.2.2,(0:Int))))) ∧
 letP (run (chartTurned_l0_step x) (y_1.1,(y_1.2.1,(y_1.2.2.1,(y_1.2.2.2,(0:Int)))))) fun r =>
 ((cgrow_pre x) ∧
 letP (cgrow x) fun y_2 =>
 ((cgrow_pre r) ∧
 letP (cgrow r) fun y_3 =>
 (¬ ((y_2.2 != y_3.2) = true) →
 (¬ (((y_2.1.length:Int) != (y_3.1.length:Int)) = true) →
 (Term (chartTurned_l2_step x) (chartTurned_l2_pre x) (y_2.1,(y_3.1,(0:Int))) ∧
 letP (run (chartTurned_l2_step x) (y_2.1,(y_3.1,(0:Int)))) fun r_1 =>
 ((charted_pre false) ∧
 letP (charted false) fun y_4 =>
 ((y_4 = true) →
 (same15_pre r_1))))))))))))
def chartTurned_t (x : ((List I3) × ((List I2) × ((List I3) × (List I9))))) : Tr Bool true :=
 (.fn few15_S (x,[]) fun y =>
 (.b01 (!y)
 (.ret true)
 (.fn own08_S x fun y_1 =>
 (LoopD.lp (chartTurned_l0 x) (chartTurned_l0_t x) (y_1.1,(y_1.2.1,(y_1.2.2.1,(y_1.2.2.2,z0)))) fun r =>
 (.fn cgrow_S x fun y_2 =>
 (.fn cgrow_S r fun y_3 =>
 (.b01 (y_2.2 != y_3.2)
 (.ret false)
 (.b01 ((nL y_2.1) != (nL y_3.1))
 (.ret false)
 (LoopD.lp (chartTurned_l2 x) (chartTurned_l2_t x) (y_2.1,(y_3.1,z0)) fun r_1 =>
 (.fn charted_S false fun y_4 =>
 (.b10 y_4
 (.fn same15_S r_1 fun y_5 =>
 (.ret y_5))
 (.ret false))))))))))))
abbrev chartTurned_S : FnS := ⟨(.agg (Ty.prod (Ty.sl yy3) (Ty.prod (Ty.sl yy2) (Ty.prod (Ty.sl yy3) (Ty.sl yy9))))),(.one Ty.bool),chartTurned_pre,chartTurned⟩
theorem chartTurned_ok : SpecOk Try.prog 5 (fnSpec chartTurned_S) := SpecOk.tr chartTurned_S chartTurned_t (fn := Try.f5) tt_ok sp_same15_ok mixed (by kernel_rfl) (ItsOk.nil _ _) (fun x => (LpsOk.tr tt_ok (SpecsOk.ctxI sp_same15_ok (ItsOk.nil _ _)) mixed 0 (chartTurned_l0 x) (chartTurned_l0_t x) (LpsOk.tr tt_ok (SpecsOk.ctxI sp_same15_ok (ItsOk.nil _ _)) mixed 2 (chartTurned_l2 x) (chartTurned_l2_t x) LpsOk.nil (by kernel_rfl) fun g s Q => (by kernel_rfl)) (by kernel_rfl) fun g s Q => (by kernel_rfl))) (fun x => (by kernel_rfl)) fun x Q => (by kernel_rfl)
end Go.Proofs.Ytkbmjhabfjgoiaa

namespace Go.Proofs.Ytkbmjhabfjgoiaa
open Go Go.Ev Go.Proofs
def swp (t : T3) : T3 := (t.2.1,(t.1,t.2.2))
def Trn (m : Msh) : Msh := (m.1,(m.2.1,(m.2.2.1,m.2.2.2.map swp)))
def flp (t : T2) : T2 := (t.2.1,(t.1,t.2.2))
def Ng (p : P3) : P3 := (-p.1,(-p.2.1,-p.2.2))
theorem trn_len (m : Msh) : (Trn m).2.2.2.length = m.2.2.2.length := by simp [Trn]
theorem trn_has (m : Msh) (i:Int) : Has (Trn m) i ↔ Has m i := by unfold Has; rw [trn_len]
theorem trn_tr {m : Msh} {i : Int} (h : Has m i) : Trg (Trn m) i = swp (Trg m i) := by
 unfold Trg Trn
 rw [List.getD_eq_getElem?_getD,List.getD_eq_getElem?_getD,List.getElem?_map,List.getElem?_eq_getElem (show i.toNat < m.2.2.2.length by omega)]
 rfl
theorem trn_pts {m : Msh} {i : Int} (h : Has m i) : Pts (Trn m) i = ((Pts m i).2.1,((Pts m i).1,(Pts m i).2.2)) := by
 unfold Pts
 rw [trn_tr h]
 rfl
theorem nrm_flip (a b c : P3) : Nrm b a c = Ng (Nrm a b c) := by
 unfold Nrm Crs Sub3 Ng
 dsimp only
 refine Prod.ext ?_ (Prod.ext ?_ ?_) <;> dsimp only <;> grind
theorem trn_nm {m : Msh} {i : Int} (h : Has m i) : Nm (Trn m) i = Ng (Nm m i) := by
 unfold Nm
 rw [trn_pts h]
 exact nrm_flip _ _ _
theorem lw_neg (x:Int) : Lw (-x) = Lw x := by unfold Lw; split <;> split <;> omega
theorem ax_neg (n : P3) : Ax (Ng n) = Ax n := by
 unfold Ax Ng
 dsimp only
 rw [lw_neg,lw_neg,lw_neg]
theorem cp_neg (n : P3) (ax:Int) : Cp (Ng n) ax = -Cp n ax := by
 unfold Cp Ng
 dsimp only
 split
 ·rfl
 ·split <;> rfl
theorem sg_neg (x:Int) : sg (-x) = -sg x := by unfold sg; split <;> split <;> (try split) <;> (try split) <;> omega
theorem ng_zero (n : P3) : Ng n = (0,(0,0)) ↔ n = (0,(0,0)) := by
 obtain ⟨a,b,c⟩ := n
 unfold Ng
 simp only [Prod.mk.injEq]
 omega
def opp (w : P2) : P2 := (w.1,-w.2)
theorem trn_way (m : Msh) (i:Int) : Way (Trn m) i = (opp (Way m i).1,(Way m i).2) := by
 unfold Way
 by_cases h : Has m i
 ·by_cases hz : Nm m i = (0,(0,0))
  ·rw [if_neg fun q => q.2 (by rw [trn_nm h]; exact (ng_zero _).2 hz),if_neg fun q => q.2 hz]; rfl
  ·rw [if_pos ⟨(trn_has m i).2 h,by rw [trn_nm h]; exact fun q => hz ((ng_zero _).1 q)⟩,if_pos ⟨h,hz⟩,trn_nm h,ax_neg,cp_neg,sg_neg]; rfl
 ·rw [if_neg fun q => h ((trn_has m i).1 q.1),if_neg fun q => h q.1]; rfl
theorem trn_shd {m : Msh} {i : Int} (h : Has m i) (ax:Int) : Shd (Trn m) i ax = flp (Shd m i ax) := by
 unfold Shd
 rw [trn_pts h]
 rfl
theorem sd_flip (a b c p : P2) : Sd b a c p = Sd a b c p := by
 unfold Sd
 rw [det_flip a b c,det_flip a b p,sg_neg,sg_neg,Int.neg_mul_neg]
theorem bel_perm {f : P2 → Int} {k : Int} {l l' : List P2} (h : l.Perm l') : Bel f k l = Bel f k l' := by
 unfold Bel
 rw [Bool.eq_iff_iff,List.all_eq_true,List.all_eq_true]
 exact ⟨fun q x hx => q x (h.symm.subset hx),fun q x hx => q x (h.subset hx)⟩
theorem tp_flip (t : T2) : (tp (flp t)).Perm (tp t) := List.Perm.swap _ _ _
theorem out_flip (a b c : P2) (k:Int) (t : T2) : Out1 b a c k (tp (flp t)) = Out1 a b c k (tp t) := by
 unfold Out1
 rw [bel_perm (tp_flip t),bel_perm (tp_flip t),bel_perm (tp_flip t)]
 rw [show Sd b a c = Sd a b c from funext fun p => sd_flip a b c p,show Sd a c b = Sd c a b from funext fun p => sd_flip c a b p,show Sd c b a = Sd b c a from funext fun p => sd_flip b c a p]
 cases Bel (Sd a b c) k (tp t) <;> cases Bel (Sd c a b) k (tp t) <;> cases Bel (Sd b c a) k (tp t) <;> rfl
theorem rt_flip (t : T2) : Rt (flp t) ↔ Rt t := by
 unfold flp
 show Right t.2.1 t.1 t.2.2 ↔ Right t.1 t.2.1 t.2.2
 unfold Right
 rw [det_flip]
 omega
theorem ov_flip (t u : T2) : (moverlap (flp t,flp u)).1 = (moverlap (t,u)).1 := by
 rw [moverlap_law,moverlap_law]
 by_cases h : Rt t ∧ Rt u
 ·rw [if_pos h,if_pos ⟨(rt_flip t).2 h.1,(rt_flip u).2 h.2⟩]
  unfold Ov
  show (!Out1 t.2.1 t.1 t.2.2 1 (tp (flp u)) && !Out1 u.2.1 u.1 u.2.2 1 (tp (flp t))) = _
  rw [out_flip,out_flip]
 ·rw [if_neg h,if_neg fun q => h ⟨(rt_flip t).1 q.1,(rt_flip u).1 q.2⟩]
theorem pr_swap (a b:Int) : Pr a b = Pr b a := by
 have h1 : minI a b = minI b a := by unfold minI; split <;> split <;> omega
 have h2 : maxI a b = maxI b a := by unfold maxI; split <;> split <;> omega
 unfold Pr
 by_cases h : a = b
 ·subst h; rfl
 ·rw [if_pos h,if_pos (Ne.symm h),h1,h2]
theorem prs_swap (t : T3) (p : P2) : p ∈ Prs (swp t) ↔ p ∈ Prs t := by
 unfold Prs swp
 dsimp only
 rw [pr_swap t.2.1.1 t.1.1,pr_swap t.1.1 t.2.2.1,pr_swap t.2.2.1 t.2.1.1]
 simp only [List.mem_append]
 constructor
 ·rintro ((h | h) | h)
  ·exact .inl (.inl h)
  ·exact .inr h
  ·exact .inl (.inr h)
 ·rintro ((h | h) | h)
  ·exact .inl (.inl h)
  ·exact .inr h
  ·exact .inl (.inr h)
theorem trn_adj {m : Msh} {i k : Int} (hi : Has m i) : Adj (Trn m) i k ↔ Adj m i k := by
 unfold Adj
 rw [trn_has]
 constructor
 ·rintro ⟨h1,h2,p,h3,h4⟩
  rw [trn_tr hi,prs_swap] at h3
  rw [trn_tr h2,prs_swap] at h4
  exact ⟨h1,h2,p,h3,h4⟩
 ·rintro ⟨h1,h2,p,h3,h4⟩
  exact ⟨h1,h2,p,by rw [trn_tr hi,prs_swap]; exact h3,by rw [trn_tr h2,prs_swap]; exact h4⟩
theorem opp_eq (v w : P2) : opp v = opp w ↔ v = w := by
 obtain ⟨a,b⟩ := v
 obtain ⟨c,d⟩ := w
 unfold opp
 simp only [Prod.mk.injEq]
 omega
theorem trn_fits {m : Msh} {w : P2} {l : List Int} {i : Int} (hi : Has m i) (hl : ∀ k ∈ l,Has m k) : FitsP (Trn m) (opp w) l i ↔ FitsP m w l i := by
 have hw : Way (Trn m) i = (opp w,true) ↔ Way m i = (w,true) := by
  rw [trn_way]
  simp only [Prod.mk.injEq,opp_eq]
  constructor
  ·intro h; exact Prod.ext h.1 h.2
  ·intro h; rw [h]; exact ⟨rfl,rfl⟩
 have ho : ∀ k ∈ l,(Over (Trn m) w.1 i k ↔ Over m w.1 i k) := fun k hk => by
  unfold Over
  rw [trn_shd hi,trn_shd (hl k hk),ov_flip]
 constructor
 ·intro h
  exact ⟨hw.1 h.way,h.new,fun k hk q => h.apart k hk ((ho k hk).2 q),h.near.imp id fun ⟨k,h1,h2⟩ => ⟨k,h1,(trn_adj hi).1 h2⟩⟩
 ·intro h
  exact ⟨hw.2 h.way,h.new,fun k hk q => h.apart k hk ((ho k hk).1 q),h.near.imp id fun ⟨k,h1,h2⟩ => ⟨k,h1,(trn_adj hi).2 h2⟩⟩
theorem trn_free (m : Msh) : Free0 (Trn m) = Free0 m := by
 unfold Free0
 rw [trn_len]
 congr 1
 funext i
 rw [trn_way]
end Go.Proofs.Ytkbmjhabfjgoiaa
