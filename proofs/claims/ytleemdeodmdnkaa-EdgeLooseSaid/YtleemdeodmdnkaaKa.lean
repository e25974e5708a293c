/- Plain laws: EdgeLoose. -/
import Derived.Test.YtleemdeodmdnkaaPy
import Derived.Test.YtleemdeodmdnkaaEk
noncomputable section
set_option linter.unusedSectionVars false
set_option linter.unusedVariables false
set_option linter.unusedSimpArgs false
namespace Go.Proofs.Ytleemdeodmdnkaa
open Go Go.Ev Go.Proofs
theorem big14_law (x : List EdgeV) : big14_pre x ∧ (big14 x = false → x.length ≤ 60 ∧ ∀ e ∈ x,e.2.2.length ≤ 60) := by
 have key : TR (big14_l0_step x) (big14_l0_pre x) 0 (fun r => Sum.elim (fun _ => true) (fun _ => decide (((x.length:Nat):Int) > 60)) r = false → x.length ≤ 60 ∧ ∀ e ∈ x,e.2.2.length ≤ 60) := by
  by_cases hl : x.length ≤ 60
  ·refine for_loop x.length (fun i s => s = (i:Int) ∧ ∀ e ∈ x.take i,e.2.2.length ≤ 60) _ (fun i s hi ⟨e,h1⟩ => ?_) (fun s ⟨e,h1⟩ => ?_) ⟨rfl,by simp⟩
   ·subst e
    constructor
    ·unfold big14_l0_pre
     intro _ _
     rw [Int.toNat_natCast]
     exact ⟨⟨by omega,by omega⟩,hi,hi,hi⟩
    ·unfold big14_l0_step
     rw [if_pos (by omega),if_pos (by omega),Int.toNat_natCast,cnt (n := 60) (by omega) (by omega)]
     by_cases hg : (((x.getD i (0,(0,[]))).2.2.length:Nat):Int) > 60
     ·rw [if_pos hg]
      exact .inr ⟨_,rfl,fun h => by cases h⟩
     ·rw [if_neg hg]
      refine .inl ⟨_,rfl,rfl,fun e he => ?_⟩
      rw [take_snoc hi (0,(0,[])),List.mem_append,List.mem_singleton] at he
      rcases he with he | rfl
      ·exact h1 e he
      ·omega
   ·subst e
    constructor
    ·unfold big14_l0_pre
     intro h; omega
    ·unfold big14_l0_step
     rw [if_neg (by omega)]
     exact ⟨_,rfl,fun _ => ⟨hl,by rw [List.take_length] at h1; exact h1⟩⟩
  ·refine TR.stop (r := .inr ()) ?_ ?_ fun h => ?_
   ·unfold big14_l0_pre
    intro _ h; omega
   ·unfold big14_l0_step
    rw [if_pos (by omega),if_neg (by omega)]
   ·have : decide (((x.length:Nat):Int) > 60) = false := h
    have := of_decide_eq_false this
    omega
 exact ⟨key.1,key.2⟩
theorem same14_law {u : List EdgeV} (h : Sml u) : same14_pre (u,u) ∧ same14 (u,u) = true := by
 have key : TR (same14_l0_step (u,u)) (same14_l0_pre (u,u)) 0 (fun r => r = .inr ()) := by
  refine for_loop u.length (fun i s => s = (i:Int)) _ (fun i s hi e => ?_) (fun s e => ?_) rfl
  ·subst e
   have hs := same01_law (x := (u.getD i (0,(0,[]))).2.2) (y := (u.getD i (0,(0,[]))).2.2) (h.2 _ (getD_in hi _))
   constructor
   ·unfold same14_l0_pre
    dsimp only [letP]
    intro _
    rw [Int.toNat_natCast]
    have b : (0:Int) ≤ (i:Int) ∧ (i:Int) < ((u.length:Nat):Int) := ⟨by omega,by omega⟩
    exact ⟨b,hi,hi,hi,b,hi,hi,hi,fun _ => ⟨b,hi,hi,hi,b,hi,hi,hi,fun _ => ⟨b,hi,hi,hi,b,hi,hi,hi,hs.1⟩⟩⟩
   ·refine .inl ?_
    unfold same14_l0_step
    dsimp only [letV]
    rw [if_pos (by omega),Int.toNat_natCast,if_neg (by simp),if_neg (by simp),hs.2,if_neg (by simp),cnt (n := 1000000) (by have := h.1; omega) (by omega)]
    exact ⟨_,rfl,rfl⟩
  ·subst e
   constructor
   ·unfold same14_l0_pre
    dsimp only
    intro h; omega
   ·unfold same14_l0_step
    dsimp only
    rw [if_neg (by omega)]
    exact ⟨_,rfl,rfl⟩
 unfold same14_pre same14
 dsimp only [letV]
 rw [if_neg (by simp),key.2]
 exact ⟨fun _ => key.1,rfl⟩
theorem filter_at {x : List EdgeV} {i : Nat} (hi : i < x.length) : x.filter lone = (x.take i).filter lone ++ ((if lone (x.getD i (0,(0,[]))) = true then [x.getD i (0,(0,[]))] else []) ++ (x.drop (i + 1)).filter lone) := by
 have e : x = x.take i ++ (x.getD i (0,(0,[])) :: x.drop (i + 1)) := by
  have := List.take_append_drop i x
  rw [List.drop_eq_getElem_cons hi] at this
  rw [List.getD_eq_getElem?_getD,List.getElem?_eq_getElem hi]
  exact this.symm
 have e2 : x.filter lone = (x.take i ++ (x.getD i (0,(0,[])) :: x.drop (i + 1))).filter lone := congrArg _ e
 rw [e2,List.filter_append,List.filter_cons]
 split <;> simp
theorem loose_law (x : List EdgeV) : edgeLoose_pre x ∧ edgeLoose x = true := by
 obtain ⟨b1,b2⟩ := big14_law x
 obtain ⟨e1,e2⟩ := edged_law
 cases hb : big14 x with
 | true =>
  unfold edgeLoose_pre edgeLoose
  dsimp only [letP,letV]
  rw [hb]
  exact ⟨⟨b1,fun h => absurd rfl h⟩,rfl⟩
 | false =>
  obtain ⟨hl,ht⟩ := b2 hb
  have hs : Sml x := ⟨by omega,fun e he => by have := ht e he; omega⟩
  have hf : Sml (x.filter lone) := ⟨Nat.le_trans (List.length_filter_le _ _) hs.1,fun e he => hs.2 e (List.mem_filter.1 he).1⟩
  obtain ⟨u1,u2⟩ := eloose_law hs
  obtain ⟨v1,v2⟩ := eloose_law hf
  have hff : (x.filter lone).filter lone = x.filter lone := by rw [List.filter_filter]; simp
  rw [hff] at v2
  obtain ⟨s1,s2⟩ := same14_law hf
  have hle : ∀ i,((x.take i).filter lone).length ≤ 60 := fun i => Nat.le_trans (List.length_filter_le _ _) (by rw [List.length_take]; omega)
  have key : TR (edgeLoose_l0_step x) (edgeLoose_l0_pre x) (x.filter lone,(0,0)) (fun r => r = .inr (x.filter lone,(((x.filter lone).length:Nat):Int))) := by
   refine for_loop x.length (fun i s => s = (x.filter lone,((((x.take i).filter lone).length:Int),(i:Int)))) _ (fun i s hi e => ?_) (fun s e => ?_) rfl
   ·subst e
    have hfa := filter_at hi
    have hsn : (x.take (i + 1)).filter lone = (x.take i).filter lone ++ [x.getD i (0,(0,[]))].filter lone := by rw [take_snoc hi (0,(0,[])),List.filter_append]
    have hlei := hle i
    by_cases hg : (x.getD i (0,(0,[]))).2.2.length = 1
    ·have hL : lone (x.getD i (0,(0,[]))) = true := decide_eq_true hg
     rw [if_pos hL] at hfa
     rw [List.filter_cons_of_pos hL,List.filter_nil] at hsn
     have hlt : ((x.take i).filter lone).length < (x.filter lone).length := by
      rw [hfa,List.length_append,List.length_append,List.length_singleton]; omega
     have hat : (x.filter lone).getD ((x.take i).filter lone).length (0,(0,[])) = x.getD i (0,(0,[])) := by
      rw [hfa,List.getD_eq_getElem?_getD,List.getElem?_append_right (Nat.le_refl _),Nat.sub_self]; rfl
     have b : (0:Int) ≤ (i:Int) ∧ (i:Int) < ((x.length:Nat):Int) := ⟨by omega,by omega⟩
     have b' : (0:Int) ≤ (((x.take i).filter lone).length:Int) ∧ (((x.take i).filter lone).length:Int) < (((x.filter lone).length:Nat):Int) := ⟨by omega,by omega⟩
     constructor
     ·unfold edgeLoose_l0_pre
      dsimp only
      intro _
      rw [Int.toNat_natCast,Int.toNat_natCast,hat]
      refine ⟨b,hi,hi,hi,fun _ _ => ⟨b',hlt,hlt,hlt,b,hi,hi,hi,fun _ => ⟨b',hlt,hlt,hlt,b,hi,hi,hi,fun _ => ⟨b',hlt,hlt,hlt,fun _ => ⟨b',hlt,hlt,hlt,?_,?_,?_,b,hi,hi,hi,?_,?_,?_⟩⟩⟩⟩⟩ <;> omega
     ·refine .inl ?_
      unfold edgeLoose_l0_step
      dsimp only
      rw [Int.toNat_natCast,Int.toNat_natCast,hat,if_pos b.2,if_neg (by rw [hg]; decide),if_neg (by omega),if_neg (by simp),if_neg (by simp),if_neg (by rw [hg]; decide),if_neg (by simp),cnt (n := 1000) (by omega) (by omega),cnt (n := 1000) (by omega) (by omega)]
      refine ⟨_,rfl,?_⟩
      rw [hsn,List.length_append,List.length_singleton]
    ·have hL : ¬ lone (x.getD i (0,(0,[]))) = true := fun q => hg (of_decide_eq_true q)
     rw [List.filter_cons_of_neg hL,List.filter_nil,List.append_nil] at hsn
     constructor
     ·unfold edgeLoose_l0_pre
      dsimp only
      intro _
      rw [Int.toNat_natCast]
      refine ⟨⟨by omega,by omega⟩,hi,hi,hi,fun h => absurd (by simp only [bne_iff_ne,ne_eq]; omega) h⟩
     ·refine .inl ?_
      unfold edgeLoose_l0_step
      dsimp only
      rw [Int.toNat_natCast,if_pos (by omega),if_pos (by simp only [bne_iff_ne,ne_eq]; omega),cnt (n := 1000) (by omega) (by omega)]
      exact ⟨_,rfl,by rw [hsn]⟩
   ·subst e
    constructor
    ·unfold edgeLoose_l0_pre
     dsimp only
     intro h; omega
    ·unfold edgeLoose_l0_step
     dsimp only
     rw [if_neg (by omega)]
     exact ⟨_,rfl,by rw [List.take_length]⟩
  unfold edgeLoose_pre edgeLoose
  dsimp only [letP,letV]
  rw [hb,u2,key.2]
  refine ⟨⟨b1,fun _ => ⟨u1,key.1,e1,fun _ _ => ⟨v1,?_⟩⟩⟩,?_⟩
  ·rw [v2]; exact s1
  ·show (if edged false = true then _ else _) = true
   rw [e2,if_pos rfl,if_pos (by simp),v2]
   exact s2
end Go.Proofs.Ytleemdeodmdnkaa
