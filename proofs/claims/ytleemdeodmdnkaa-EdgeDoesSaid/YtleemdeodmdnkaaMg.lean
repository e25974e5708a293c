/- Plain laws: the references of law 14 that are left: neighbours as they are told, loose edges, what is sought, one's own. -/
import Derived.Test.YtleemdeodmdnkaaMc
import Derived.Test.YtleemdeodmdnkaaKl
import Derived.Test.YtleemdeodmdnkaaEl
noncomputable section
set_option linter.unusedSectionVars false
set_option linter.unusedVariables false
set_option linter.unusedSimpArgs false
namespace Go.Proofs.Ytleemdeodmdnkaa
open Go Go.Ev Go.Proofs
theorem r14next_lt {m : Msh} (hm : meshB m = true) {i : Int} (hi : Has m i) : (r14next (m,i)).1.Pairwise (· < ·) ∧ (r14next (m,i)).2 = 0 := by
 have hn := (mesh_len hm).2.2.2
 obtain ⟨t1,t2⟩ := r8is_law m
 have key : TR (r14next_l0_step (m,i)) (r14next_l0_pre (m,i)) ([],0) (fun r => r.Pairwise (· < ·)) := by
  refine for_loop m.2.2.2.length (fun j s => ∃ o,s = (o,(j:Int)) ∧ o.length ≤ j ∧ o.Pairwise (· < ·) ∧ ∀ k ∈ o,k < (j:Int)) _ (fun j s hj ⟨o,e,h1,h2,h3⟩ => ?_) (fun s ⟨o,e,h1,h2,h3⟩ => ?_) ⟨[],rfl,Nat.le_refl _,List.Pairwise.nil,fun k hk => by cases hk⟩
  ·subst e
   obtain ⟨n1,n2⟩ := r14nx_law hi (k := (j:Int)) ⟨by omega,by omega⟩
   constructor
   ·unfold r14next_l0_pre
    dsimp only [letP]
    intro _
    exact ⟨n1,fun _ => by omega⟩
   ·refine .inl ?_
    unfold r14next_l0_step
    dsimp only [letV]
    rw [if_pos (by omega),cnt (n := 500) (by omega) (by omega)]
    by_cases h : r14nx (m,(i,(j:Int))) = true
    ·rw [if_pos h]
     refine ⟨_,rfl,_,rfl,by rw [List.length_append,List.length_singleton]; omega,?_,fun k hk => ?_⟩
     ·refine List.pairwise_append.2 ⟨h2,List.pairwise_singleton _ _,fun x hx y hy => ?_⟩
      rw [List.mem_singleton.1 hy]
      exact h3 x hx
     ·rcases List.mem_append.1 hk with hk | hk
      ·have := h3 k hk; omega
      ·rw [List.mem_singleton.1 hk]; omega
    ·rw [if_neg h]
     exact ⟨_,rfl,o,rfl,by omega,h2,fun k hk => by have := h3 k hk; omega⟩
  ·subst e
   constructor
   ·unfold r14next_l0_pre
    dsimp only
    intro h; omega
   ·unfold r14next_l0_step
    dsimp only
    rw [if_neg (by omega)]
    exact ⟨_,rfl,h2⟩
 unfold r14next
 dsimp only [letV]
 rw [t2,hm,if_neg (by decide),if_neg (by have := hi.1; omega),if_neg (by have := hi.2; omega)]
 exact ⟨key.2,rfl⟩
theorem r14next_full (m : Msh) (i:Int) : r14next_pre (m,i) ∧ r14next (m,i) = enext (m,i) := by
 obtain ⟨t1,t2⟩ := r8is_law m
 by_cases h : meshB m = true ∧ Has m i
 ·obtain ⟨hm,hi⟩ := h
  obtain ⟨a1,a2,_⟩ := r14next_law hm hi
  obtain ⟨b1,b2⟩ := r14next_lt hm hi
  obtain ⟨_,c2,_,c4,c5⟩ := enext_full hm hi
  exact ⟨a1,Prod.ext (ext_lt b1 c4 fun k => (a2 k).trans (c2 k).symm) (b2.trans c5.symm)⟩
 ·have hbad : meshB m = false ∨ ¬ Has m i := by
   cases hm : meshB m with
   | false => exact .inl rfl
   | true => exact .inr fun hi => h ⟨hm,hi⟩
  rw [(enext_bad hbad).2]
  constructor
  ·unfold r14next_pre
   dsimp only [letP]
   refine ⟨t1,fun q1 q2 q3 => ?_⟩
   exfalso
   rw [t2] at q1
   rcases hbad with h | h
   ·rw [h] at q1; exact q1 rfl
   ·exact h ⟨by omega,by omega⟩
  ·unfold r14next
   dsimp only [letV]
   rw [t2]
   rcases hbad with h | h
   ·rw [h,if_pos (by decide)]
   ·cases meshB m with
    | false => rw [if_pos (by decide)]
    | true =>
     rw [if_neg (by decide)]
     by_cases h1 : i < 0
     ·rw [if_pos h1]
     ·rw [if_neg h1]
      by_cases h2 : i ≥ (m.2.2.2.length:Int)
      ·rw [if_pos h2]
      ·exact absurd ⟨by omega,by omega⟩ h
theorem r14own_law {e : EdgeV} (h : e.2.2.length ≤ 1000000) : r14own_pre e ∧ r14own e = e := by
 refine ⟨?_,rfl⟩
 unfold r14own_pre r1own_pre
 omega
theorem r14all_law {l : List EdgeV} (h : Sml l) : r14all_pre l ∧ r14all l = l := by
 have hl := h.1
 have key : TR (r14all_l0_step l) (r14all_l0_pre l) ([],0) (fun r => r = l) := by
  refine for_loop l.length (fun i s => s = (l.take i,(i:Int))) _ (fun i s hi e => ?_) (fun s e => ?_) rfl
  ·subst e
   obtain ⟨o1,o2⟩ := r14own_law (h.2 _ (getD_in hi ((0:Int),((0:Int),([] : List Int)))))
   constructor
   ·unfold r14all_l0_pre
    dsimp only [letP]
    intro _
    rw [Int.toNat_natCast,List.length_take]
    exact ⟨⟨by omega,by omega⟩,hi,hi,o1,by omega⟩
   ·refine .inl ?_
    unfold r14all_l0_step
    dsimp only [letV]
    rw [if_pos (by omega),Int.toNat_natCast,o2,cnt (n := 1000000) (by omega) (by omega),← take_snoc hi (0,(0,[]))]
    exact ⟨_,rfl,rfl⟩
  ·subst e
   constructor
   ·unfold r14all_l0_pre
    dsimp only
    intro h; omega
   ·unfold r14all_l0_step
    dsimp only
    rw [if_neg (by omega),List.take_length]
    exact ⟨_,rfl,rfl⟩
 exact ⟨key.1,key.2⟩
theorem r14loose_law {l : List EdgeV} (h : Sml l) : r14loose_pre l ∧ r14loose l = eloose l := by
 have hl := h.1
 have key : TR (r14loose_l0_step l) (r14loose_l0_pre l) ([],0) (fun r => r = l.filter lone) := by
  refine for_loop l.length (fun i s => s = ((l.take i).filter lone,(i:Int))) _ (fun i s hi e => ?_) (fun s e => ?_) rfl
  ·subst e
   obtain ⟨o1,o2⟩ := r14own_law (h.2 _ (getD_in hi ((0:Int),((0:Int),([] : List Int)))))
   have hsn : (l.take (i + 1)).filter lone = (l.take i).filter lone ++ [l.getD i (0,(0,[]))].filter lone := by rw [take_snoc hi (0,(0,[])),List.filter_append]
   have hle : ((l.take i).filter lone).length ≤ 1000000 := Nat.le_trans (List.length_filter_le _ _) (by rw [List.length_take]; omega)
   constructor
   ·unfold r14loose_l0_pre
    dsimp only [letP]
    intro _
    rw [Int.toNat_natCast]
    exact ⟨⟨by omega,by omega⟩,hi,hi,hi,fun _ => ⟨⟨by omega,by omega⟩,hi,hi,o1,by omega⟩⟩
   ·refine .inl ?_
    unfold r14loose_l0_step
    dsimp only [letV]
    rw [if_pos (by omega),Int.toNat_natCast,o2,cnt (n := 1000000) (by omega) (by omega)]
    by_cases hg : (l.getD i (0,(0,[]))).2.2.length = 1
    ·rw [if_pos (by rw [hg]; rfl)]
     refine ⟨_,rfl,?_⟩
     have hL : lone (l.getD i (0,(0,[]))) = true := decide_eq_true hg
     rw [hsn,List.filter_cons_of_pos hL]; rfl
    ·rw [if_neg (by simp only [beq_iff_eq]; omega)]
     refine ⟨_,rfl,?_⟩
     have hL : ¬ lone (l.getD i (0,(0,[]))) = true := fun q => hg (of_decide_eq_true q)
     rw [hsn,List.filter_cons_of_neg hL,List.filter_nil,List.append_nil]
  ·subst e
   constructor
   ·unfold r14loose_l0_pre
    dsimp only
    intro h; omega
   ·unfold r14loose_l0_step
    dsimp only
    rw [if_neg (by omega)]
    exact ⟨_,rfl,by rw [List.take_length]⟩
 rw [(eloose_law h).2]
 exact ⟨key.1,key.2⟩
end Go.Proofs.Ytleemdeodmdnkaa

namespace Go.Proofs.Ytleemdeodmdnkaa
open Go Go.Ev Go.Proofs
theorem findIf (x y a b:Int) {α : Type} {A B : α} : (if (x == a) = true then (if (y == b) = true then A else (if (x == b) = true then (if (y == a) = true then A else B) else B)) else (if (x == b) = true then (if (y == a) = true then A else B) else B)) = if ((x = a ∧ y = b) ∨ (x = b ∧ y = a)) then A else B := by
 simp only [beq_iff_eq]
 by_cases hE : (x = a ∧ y = b) ∨ (x = b ∧ y = a)
 ·rw [if_pos hE]
  rcases hE with ⟨h1,h2⟩ | ⟨h1,h2⟩
  ·rw [if_pos h1,if_pos h2]
  ·by_cases h3 : x = a
   ·rw [if_pos h3]
    by_cases h4 : y = b
    ·rw [if_pos h4]
    ·rw [if_neg h4,if_pos h1,if_pos h2]
   ·rw [if_neg h3,if_pos h1,if_pos h2]
 ·rw [if_neg hE]
  have h1 : ¬ (x = a ∧ y = b) := fun q => hE (.inl q)
  have h2 : ¬ (x = b ∧ y = a) := fun q => hE (.inr q)
  have tail : (if x = b then (if y = a then A else B) else B) = B := by
   by_cases h3 : x = b
   ·rw [if_pos h3,if_neg (fun q => h2 ⟨h3,q⟩)]
   ·rw [if_neg h3]
  rw [tail]
  by_cases h3 : x = a
  ·rw [if_pos h3,if_neg (fun q => h1 ⟨h3,q⟩)]
  ·rw [if_neg h3]
theorem efind_at {l : List EdgeV} (hs : Sml l) (a b:Int) : efind_pre (l,(a,b)) ∧ efind (l,(a,b)) = match l.findIdx? (fun x => eat (x,(a,b))) with | some i => (l.getD i (0,(0,[])),true) | none => ((0,(0,[])),false) := by
 obtain ⟨i1,i2⟩ := index_loop l (by have := hs.1; omega) (fun x => eat (x,(a,b))) (indexE_l0_step (l,(a,b))) (indexE_l0_pre (l,(a,b))) (fun i hi => by
   unfold indexE_l0_pre
   intro h
   simp only [Int.toNat_natCast]
   dsimp only at h ⊢; omega) (fun i x hx => by
   have hlt := lt_of_get hx
   unfold indexE_l0_step
   rw [if_pos (by dsimp only; omega),Int.toNat_natCast]
   dsimp only [letV]
   rw [getD_of hx]) (by
   unfold indexE_l0_step
   rw [if_neg (by dsimp only; omega)])
 have i2 : indexE (l,(a,b)) = match l.findIdx? (fun x => eat (x,(a,b))) with | some i => (i:Int) | none => -1 := i2
 unfold efind_pre efind
 dsimp only [letP,letV]
 cases hF : l.findIdx? (fun x => eat (x,(a,b))) with
 | none =>
  rw [hF] at i2
  rw [i2]
  exact ⟨⟨i1,fun h => absurd (by decide) h⟩,rfl⟩
 | some i =>
  rw [hF] at i2
  have i2 : indexE (l,(a,b)) = (i:Int) := i2
  rw [List.findIdx?_eq_some_iff_getElem] at hF
  obtain ⟨h1,_⟩ := hF
  obtain ⟨o1,o2⟩ := eown_law (hs.2 _ (getD_in h1 ((0:Int),((0:Int),([] : List Int)))))
  rw [i2,Int.toNat_natCast,if_neg (by omega),o2]
  exact ⟨⟨i1,fun _ => ⟨⟨by omega,by omega⟩,h1,h1,o1⟩⟩,rfl⟩
theorem r14find_law {l : List EdgeV} (hs : Sml l) (a b:Int) : r14find_pre (l,(a,b)) ∧ r14find (l,(a,b)) = efind (l,(a,b)) := by
 have hl := hs.1
 rw [(efind_at hs a b).2]
 have key : TR (r14find_l0_step (l,(a,b))) (r14find_l0_pre (l,(a,b))) 0 (fun r => Sum.elim (fun a => (a,true)) (fun _ => ((0,(0,[])),false)) r = match l.findIdx? (fun x => eat (x,(a,b))) with | some i => (l.getD i (0,(0,[])),true) | none => ((0,(0,[])),false)) := by
  refine for_loop l.length (fun i s => s = (i:Int) ∧ ∀ x ∈ l.take i,eat (x,(a,b)) = false) _ (fun i s hi ⟨e,h1⟩ => ?_) (fun s ⟨e,h1⟩ => ?_) ⟨rfl,by simp⟩
  ·subst e
   obtain ⟨e,he⟩ : ∃ e,e = l.getD i ((0:Int),((0:Int),([] : List Int))) := ⟨_,rfl⟩
   obtain ⟨o1,o2⟩ := r14own_law (hs.2 e (by rw [he]; exact getD_in hi _))
   have bb : (0:Int) ≤ (i:Int) ∧ (i:Int) < ((l.length:Nat):Int) := ⟨by omega,by omega⟩
   constructor
   ·unfold r14find_l0_pre
    dsimp only
    intro _
    rw [Int.toNat_natCast,← he]
    exact ⟨bb,hi,hi,hi,fun _ => ⟨bb,hi,hi,hi,fun _ => ⟨bb,hi,hi,o1⟩,fun _ => ⟨bb,hi,hi,hi,fun _ => ⟨bb,hi,hi,hi,fun _ => ⟨bb,hi,hi,o1⟩⟩⟩⟩,fun _ => ⟨bb,hi,hi,hi,fun _ => ⟨bb,hi,hi,hi,fun _ => ⟨bb,hi,hi,o1⟩⟩⟩⟩
   ·unfold r14find_l0_step
    dsimp only [letV]
    rw [if_pos bb.2,Int.toNat_natCast,← he,o2,cnt (n := 1000000) (by omega) (by omega),findIf]
    by_cases hE : (e.1 = a ∧ e.2.1 = b) ∨ (e.1 = b ∧ e.2.1 = a)
    ·rw [if_pos hE]
     refine .inr ⟨_,rfl,?_⟩
     have ht : eat (e,(a,b)) = true := (eat_iff e a b).2 hE
     have hF : l.findIdx? (fun x => eat (x,(a,b))) = some i := by
      rw [List.findIdx?_eq_some_iff_getElem]
      refine ⟨hi,?_,fun j hj => ?_⟩
      ·rw [List.getD_eq_getElem?_getD,List.getElem?_eq_getElem hi] at he
       have he : e = l[i] := he
       rw [← he]; exact ht
      ·have hji : j < l.length := by omega
       have := h1 l[j] (List.mem_take_iff_getElem.2 ⟨j,by omega,rfl⟩)
       rw [this]; decide
     rw [hF]
     show ((e.1,(e.2.1,e.2.2)),true) = (l.getD i (0,(0,[])),true)
     rw [← he]
    ·rw [if_neg hE]
     refine .inl ⟨_,rfl,rfl,fun x hx => ?_⟩
     rw [take_snoc hi (0,(0,[])),← he,List.mem_append,List.mem_singleton] at hx
     rcases hx with hx | rfl
     ·exact h1 x hx
     ·cases h : eat (x,(a,b)) with
      | false => rfl
      | true => exact absurd ((eat_iff x a b).1 h) hE
  ·subst e
   constructor
   ·unfold r14find_l0_pre
    dsimp only
    intro h; omega
   ·unfold r14find_l0_step
    dsimp only
    rw [if_neg (by omega)]
    rw [List.take_length] at h1
    have hF : l.findIdx? (fun x => eat (x,(a,b))) = none := by
     rw [List.findIdx?_eq_none_iff]
     exact h1
    rw [hF]
    exact ⟨_,rfl,rfl⟩
 exact ⟨key.1,key.2⟩
end Go.Proofs.Ytleemdeodmdnkaa

namespace Go.Proofs.Ytleemdeodmdnkaa
open Go Go.Ev Go.Proofs
theorem big14_law (x : List EdgeV) : big14_pre x ∧ (big14 x = false → x.length ≤ 60 ∧ ∀ e ∈ x,e.2.2.length ≤ 60) := by
 have key : TR (big14_l0_step x) (big14_l0_pre x) 0 (fun r => Sum.elim (fun _ => true) (fun _ => decide (((x.length:Nat):Int) > 60)) r = false → x.length ≤ 60 ∧ ∀ e ∈ x,e.2.2.length ≤ 60) := by
  by_cases hl : x.length ≤ 60
  ·refine for_loop x.length (fun i s => s = (i:Int) ∧ ∀ e ∈ x.take i,e.2.2.length ≤ 60) _ (fun i s hi ⟨e,h1⟩ => ?_) (fun s ⟨e,h1⟩ => ?_) ⟨rfl,by simp⟩
   ·subst e
    constructor
    ·unfold big14_l0_pre
     intro _ _
     rw [Int.toNat_natCast]
     exact ⟨⟨by omega,by omega⟩,hi,hi,hi⟩
    ·unfold big14_l0_step
     rw [if_pos (by omega),if_pos (by omega),Int.toNat_natCast,cnt (n := 60) (by omega) (by omega)]
     by_cases hg : (((x.getD i (0,(0,[]))).2.2.length:Nat):Int) > 60
     ·rw [if_pos hg]
      exact .inr ⟨_,rfl,fun h => by cases h⟩
     ·rw [if_neg hg]
      refine .inl ⟨_,rfl,rfl,fun e he => ?_⟩
      rw [take_snoc hi (0,(0,[])),List.mem_append,List.mem_singleton] at he
      rcases he with he | rfl
      ·exact h1 e he
      ·omega
   ·subst e
    constructor
    ·unfold big14_l0_pre
     intro h; omega
    ·unfold big14_l0_step
     rw [if_neg (by omega)]
     exact ⟨_,rfl,fun _ => ⟨hl,by rw [List.take_length] at h1; exact h1⟩⟩
  ·refine TR.stop (r := .inr ()) ?_ ?_ fun h => ?_
   ·unfold big14_l0_pre
    intro _ h; omega
   ·unfold big14_l0_step
    rw [if_pos (by omega),if_neg (by omega)]
   ·have : decide (((x.length:Nat):Int) > 60) = false := h
    have := of_decide_eq_false this
    omega
 exact ⟨key.1,key.2⟩
theorem same14_law {u : List EdgeV} (h : Sml u) : same14_pre (u,u) ∧ same14 (u,u) = true := by
 have key : TR (same14_l0_step (u,u)) (same14_l0_pre (u,u)) 0 (fun r => r = .inr ()) := by
  refine for_loop u.length (fun i s => s = (i:Int)) _ (fun i s hi e => ?_) (fun s e => ?_) rfl
  ·subst e
   have hs := same01_law (x := (u.getD i (0,(0,[]))).2.2) (y := (u.getD i (0,(0,[]))).2.2) (h.2 _ (getD_in hi _))
   constructor
   ·unfold same14_l0_pre
    dsimp only [letP]
    intro _
    rw [Int.toNat_natCast]
    have b : (0:Int) ≤ (i:Int) ∧ (i:Int) < ((u.length:Nat):Int) := ⟨by omega,by omega⟩
    exact ⟨b,hi,hi,hi,b,hi,hi,hi,fun _ => ⟨b,hi,hi,hi,b,hi,hi,hi,fun _ => ⟨b,hi,hi,hi,b,hi,hi,hi,hs.1⟩⟩⟩
   ·refine .inl ?_
    unfold same14_l0_step
    dsimp only [letV]
    rw [if_pos (by omega),Int.toNat_natCast,if_neg (by simp),if_neg (by simp),hs.2,if_neg (by simp),cnt (n := 1000000) (by have := h.1; omega) (by omega)]
    exact ⟨_,rfl,rfl⟩
  ·subst e
   constructor
   ·unfold same14_l0_pre
    dsimp only
    intro h; omega
   ·unfold same14_l0_step
    dsimp only
    rw [if_neg (by omega)]
    exact ⟨_,rfl,rfl⟩
 unfold same14_pre same14
 dsimp only [letV]
 rw [if_neg (by simp),key.2]
 exact ⟨fun _ => key.1,rfl⟩
end Go.Proofs.Ytleemdeodmdnkaa
