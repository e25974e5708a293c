/- Plain laws: the laws' small functions; the document's rows. -/
import Derived.Test.YtleemdeodmdnkaaPw
import Derived.Test.YtleemdeodmdnkaaEg
noncomputable section
set_option linter.unusedSectionVars false
set_option linter.unusedVariables false
set_option linter.unusedSimpArgs false
namespace Go.Proofs.Ytleemdeodmdnkaa
open Go Go.Ev Go.Proofs
theorem same01_law {x y : List Int} (hx : x.length ≤ 1000000) : same01_pre (x,y) ∧ same01 (x,y) = decide (x = y) := by
 unfold same01_pre same01
 dsimp only [letV]
 by_cases hl : x.length = y.length
 ·have key : TR (same01_l0_step (x,y)) (same01_l0_pre (x,y)) 0 (fun r => Sum.elim (fun _ => false) (fun _ => true) r = decide (x = y)) := by
   refine for_loop x.length (fun i s => s = (i:Int) ∧ x.take i = y.take i) _ (fun i s hi ⟨e,h1⟩ => ?_) (fun s ⟨e,h1⟩ => ?_) ⟨rfl,rfl⟩
   ·subst e
    constructor
    ·unfold same01_l0_pre
     dsimp only
     intro _
     rw [Int.toNat_natCast]
     exact ⟨⟨by omega,by omega⟩,hi,hi,⟨by omega,by omega⟩,by omega,by omega⟩
    ·unfold same01_l0_step
     dsimp only
     rw [if_pos (by omega),Int.toNat_natCast,cnt (n := 1000000) (by omega) (by omega)]
     by_cases hg : x.getD i 0 = y.getD i 0
     ·rw [if_neg (by simpa using hg)]
      exact .inl ⟨_,rfl,rfl,by rw [take_snoc hi 0,take_snoc (by omega) 0,h1,hg]⟩
     ·rw [if_pos (by simpa using hg)]
      refine .inr ⟨_,rfl,?_⟩
      symm
      exact decide_eq_false fun e => hg (by rw [e])
   ·subst e
    constructor
    ·unfold same01_l0_pre
     dsimp only
     intro h; omega
    ·unfold same01_l0_step
     dsimp only
     rw [if_neg (by omega)]
     refine ⟨_,rfl,?_⟩
     rw [List.take_length,hl,List.take_length] at h1
     symm
     exact decide_eq_true h1
  rw [if_neg (by rw [hl]; simp)]
  exact ⟨fun _ => key.1,key.2⟩
 ·rw [if_pos (by simp; omega)]
  refine ⟨fun h => absurd (by simp; omega) h,?_⟩
  symm
  exact decide_eq_false fun e => hl (by rw [e])
theorem in14_law {l : List Int} (hl : l.length ≤ 1000000) (k:Int) : in14_pre (l,k) ∧ in14 (l,k) = decide (k ∈ l) := by
 have key : TR (in14_l0_step (l,k)) (in14_l0_pre (l,k)) 0 (fun r => Sum.elim (fun _ => true) (fun _ => false) r = decide (k ∈ l)) := by
  refine for_loop l.length (fun i s => s = (i:Int) ∧ k ∉ l.take i) _ (fun i s hi ⟨e,h1⟩ => ?_) (fun s ⟨e,h1⟩ => ?_) ⟨rfl,by simp⟩
  ·subst e
   constructor
   ·unfold in14_l0_pre
    dsimp only
    intro _
    rw [Int.toNat_natCast]
    exact ⟨⟨by omega,by omega⟩,hi,hi⟩
   ·unfold in14_l0_step
    dsimp only
    rw [if_pos (by omega),Int.toNat_natCast,cnt (n := 1000000) (by omega) (by omega)]
    by_cases hg : l.getD i 0 = k
    ·rw [if_pos (by simpa using hg)]
     refine .inr ⟨_,rfl,?_⟩
     symm
     exact decide_eq_true (by rw [← hg]; exact getD_in hi 0)
    ·rw [if_neg (by simpa using hg)]
     exact .inl ⟨_,rfl,rfl,by
      rw [take_snoc hi 0,List.mem_append,List.mem_singleton]
      rintro (h | h)
      ·exact h1 h
      ·exact hg h.symm⟩
  ·subst e
   constructor
   ·unfold in14_l0_pre
    dsimp only
    intro h; omega
   ·unfold in14_l0_step
    dsimp only
    rw [if_neg (by omega)]
    refine ⟨_,rfl,?_⟩
    rw [List.take_length] at h1
    symm
    exact decide_eq_false h1
 exact ⟨key.1,key.2⟩
theorem eown_law {e : EdgeV} (h : e.2.2.length ≤ 1000000) : eown_pre e ∧ eown e = e := by
 refine ⟨fun b hb => ⟨?_,fun _ => by omega⟩,rfl⟩
 cases b with
 | false => rfl
 | true =>
  rw [if_pos rfl]
  have : e.2.2 = [] := by
   cases h0 : e.2.2 with
   | nil => rfl
   | cons a r => exact absurd (hb (by rw [h0]; exact Nat.zero_lt_succ _)) (by decide)
  rw [this]; rfl
def Sml (l : List EdgeV) : Prop := l.length ≤ 1000000 ∧ ∀ e ∈ l,e.2.2.length ≤ 1000000
def lone (e : EdgeV) : Bool := decide (e.2.2.length = 1)
theorem eloose_law {l : List EdgeV} (h : Sml l) : eloose_pre l ∧ eloose l = l.filter lone := by
 have key : TR (eloose_l0_step l) (eloose_l0_pre l) ([],0) (fun r => r = l.filter lone) := by
  refine for_loop l.length (fun i s => s = ((l.take i).filter lone,(i:Int))) _ (fun i s hi e => ?_) (fun s e => ?_) rfl
  ·subst e
   have hin := getD_in hi ((0:Int),((0:Int),([] : List Int)))
   obtain ⟨o1,o2⟩ := eown_law (h.2 _ hin)
   have hsn : (l.take (i + 1)).filter lone = (l.take i).filter lone ++ [l.getD i (0,(0,[]))].filter lone := by rw [take_snoc hi (0,(0,[])),List.filter_append]
   have hle : ((l.take i).filter lone).length ≤ 1000000 := Nat.le_trans (List.length_filter_le _ _) (by rw [List.length_take]; have := h.1; omega)
   constructor
   ·unfold eloose_l0_pre
    dsimp only [letP]
    intro _
    rw [Int.toNat_natCast]
    exact ⟨⟨by omega,by omega⟩,hi,hi,fun _ => ⟨o1,by omega⟩⟩
   ·refine .inl ?_
    unfold eloose_l0_step
    dsimp only [letV]
    rw [if_pos (by omega),Int.toNat_natCast,o2,cnt (n := 1000000) (by have := h.1; omega) (by omega)]
    by_cases hg : (l.getD i (0,(0,[]))).2.2.length = 1
    ·rw [if_pos (by rw [hg]; rfl)]
     refine ⟨_,rfl,?_⟩
     have hL : lone (l.getD i (0,(0,[]))) = true := decide_eq_true hg
     rw [hsn,List.filter_cons_of_pos hL]; rfl
    ·rw [if_neg (by simp only [beq_iff_eq]; omega)]
     refine ⟨_,rfl,?_⟩
     have hL : ¬ lone (l.getD i (0,(0,[]))) = true := fun q => hg (of_decide_eq_true q)
     rw [hsn,List.filter_cons_of_neg hL,List.filter_nil,List.append_nil]
  ·subst e
   constructor
   ·unfold eloose_l0_pre
    dsimp only
    intro h; omega
   ·unfold eloose_l0_step
    dsimp only
    rw [if_neg (by omega)]
    exact ⟨_,rfl,by rw [List.take_length]⟩
 exact ⟨key.1,key.2⟩
def eatP (e : EdgeV) (a b:Int) : Prop := (e.1 = a ∧ e.2.1 = b) ∨ (e.1 = b ∧ e.2.1 = a)
theorem eat_iff (e : EdgeV) (a b:Int) : eat (e,(a,b)) = true ↔ eatP e a b := by
 unfold eat eatP
 dsimp only
 split
 ·rename_i h1
  split
  ·rename_i h2
   simp at h1 h2; simp [h1,h2]
  ·rename_i h2
   split <;> rename_i h3 <;> simp at h1 h2 h3 ⊢ <;> omega
 ·rename_i h1
  split <;> rename_i h3 <;> simp at h1 h3 ⊢ <;> omega
theorem efind_hit {l : List EdgeV} (hs : Sml l) {a b : Int} {e : EdgeV} (he : e ∈ l) (hb : eatP e a b) (hu : ∀ x ∈ l,eatP x a b → x = e) : efind_pre (l,(a,b)) ∧ efind (l,(a,b)) = (e,true) := by
 obtain ⟨i1,i2⟩ := index_loop l (by have := hs.1; omega) (fun x => eat (x,(a,b))) (indexE_l0_step (l,(a,b))) (indexE_l0_pre (l,(a,b))) (fun i hi => by
   unfold indexE_l0_pre
   intro h
   simp only [Int.toNat_natCast]
   dsimp only at h ⊢; omega) (fun i x hx => by
   have hlt := lt_of_get hx
   unfold indexE_l0_step
   rw [if_pos (by dsimp only; omega),Int.toNat_natCast]
   dsimp only [letV]
   rw [getD_of hx]) (by
   unfold indexE_l0_step
   rw [if_neg (by dsimp only; omega)])
 have hany : (l.findIdx? fun x => eat (x,(a,b))).isSome = true := by
  rw [List.findIdx?_isSome]
  exact List.any_eq_true.2 ⟨e,he,(eat_iff _ _ _).2 hb⟩
 obtain ⟨i,hi⟩ := Option.isSome_iff_exists.1 hany
 rw [hi] at i2
 have i2 : indexE (l,(a,b)) = (i:Int) := i2
 rw [List.findIdx?_eq_some_iff_getElem] at hi
 obtain ⟨h1,h2,_⟩ := hi
 have hx : l.getD i (0,(0,[])) = e := by
  rw [List.getD_eq_getElem?_getD,List.getElem?_eq_getElem h1]
  exact hu _ (List.getElem_mem h1) ((eat_iff _ _ _).1 h2)
 obtain ⟨o1,o2⟩ := eown_law (hs.2 e he)
 unfold efind_pre efind
 dsimp only [letP,letV]
 rw [i2,Int.toNat_natCast,hx,if_neg (by omega),o2]
 exact ⟨⟨i1,fun _ => ⟨⟨by omega,by omega⟩,h1,h1,o1⟩⟩,rfl⟩
def m0 : Msh := (List.replicate 7 (0,(0,0)),([],([],[three (0,(1,2)),three (2,(1,3)),three (4,(5,6))])))
def l0 : List EdgeV := [(0,(1,[0])),(0,(2,[0])),(1,(2,[0,1])),(1,(3,[1])),(2,(3,[1])),(4,(5,[2])),(4,(6,[2])),(5,(6,[2]))]
theorem m0_mesh : meshB m0 = true := by kernel_rfl
theorem m0_l : EdOf m0 l0 := by
 have q1 : (l0.all fun e => decide (e.2.2 = Tris m0 (e.1,e.2.1)) && decide (e.2.2 ≠ [])) = true := by kernel_rfl
 have q2 : ([0,1,2].all fun i : Nat => (Prs (Trg m0 (i:Int))).all fun p => decide ((p.1,(p.2,Tris m0 p)) ∈ l0)) = true := by kernel_rfl
 refine ⟨?_,fun e => ⟨fun he => ?_,fun ⟨h1,h2⟩ => ?_⟩⟩
 ·unfold SE
  decide
 ·have := List.all_eq_true.1 q1 e he
  simp only [Bool.and_eq_true,decide_eq_true_eq] at this
  exact this
 ·obtain ⟨k,hk⟩ := List.exists_mem_of_ne_nil _ h2
  rw [h1,tris_mem] at hk
  obtain ⟨⟨k1,k2⟩,k3⟩ := hk
  have k2 : k < 3 := k2
  have hk : k.toNat ∈ [0,1,2] := by
   have : k.toNat = 0 ∨ k.toNat = 1 ∨ k.toNat = 2 := by omega
   simpa using this
  have := List.all_eq_true.1 q2 _ hk
  rw [show ((k.toNat:Nat):Int) = k by omega] at this
  have := List.all_eq_true.1 this _ k3
  have := of_decide_eq_true this
  rw [← h1] at this
  exact this
theorem m0_edges : eedges m0 = (l0,0) := by
 obtain ⟨_,h1,h2,_⟩ := eedges_law m0_mesh
 rw [← h2.eq m0_l,← h1]
theorem m0_adj {i k : Int} (hi : Has m0 i) : Adj m0 i k ↔ (i = 0 ∧ k = 1) ∨ (i = 1 ∧ k = 0) := by
 have q : ([0,1,2].all fun i : Nat => [0,1,2].all fun k : Nat => decide ((k ≠ i ∧ ∃ p ∈ Prs (Trg m0 (i:Int)),p ∈ Prs (Trg m0 (k:Int))) ↔ ((i = 0 ∧ k = 1) ∨ (i = 1 ∧ k = 0)))) = true := by kernel_rfl
 have f : ∀ {z : Int},Has m0 z → z.toNat ∈ [0,1,2] ∧ ((z.toNat:Nat):Int) = z := fun {z} hz => by
  have h1 := hz.1
  have h2 : z < 3 := hz.2
  have : z.toNat = 0 ∨ z.toNat = 1 ∨ z.toNat = 2 := by omega
  exact ⟨by simpa using this,by omega⟩
 obtain ⟨i1,i2⟩ := f hi
 constructor
 ·rintro ⟨h1,h2,h3⟩
  obtain ⟨k1,k2⟩ := f h2
  have := of_decide_eq_true (List.all_eq_true.1 (List.all_eq_true.1 q _ i1) _ k1)
  rw [i2,k2] at this
  have := this.1 ⟨by omega,h3⟩
  omega
 ·intro h
  have hk : Has m0 k := ⟨by omega,by show k < 3; omega⟩
  obtain ⟨k1,k2⟩ := f hk
  have := of_decide_eq_true (List.all_eq_true.1 (List.all_eq_true.1 q _ i1) _ k1)
  rw [i2,k2] at this
  obtain ⟨q1,q2⟩ := this.2 (by omega)
  exact ⟨by omega,hk,q2⟩
theorem m0_has {i : Int} (h1 : 0 ≤ i) (h2 : i < 3) : Has m0 i := ⟨h1,h2⟩
theorem m0_next : enext_pre (m0,0) ∧ enext (m0,0) = ([1],0) := by
 obtain ⟨h1,h2,_,h3,h4⟩ := enext_full m0_mesh (m0_has (i := 0) (by decide) (by decide))
 refine ⟨h1,Prod.ext (ext_lt h3 (by decide) fun k => ?_) h4⟩
 rw [h2 k,m0_adj (m0_has (by decide) (by decide)),List.mem_singleton]
 omega
theorem m0_none : enext_pre (m0,3) ∧ enext (m0,3) = ([],1) := enext_bad (.inr fun h => absurd h.2 (by decide : ¬ ((3:Int) < ((3:Nat):Int))))
theorem m0_cn {i k : Int} (h : Cn m0 i k) : i < 2 → k < 2 := by
 induction h with
 | refl => exact id
 | step _ h1 h2 ih =>
  intro hi
  have := ih hi
  rcases (m0_adj h1).1 h2 with q | q <;> omega
theorem m0_parts : eparts_pre m0 ∧ eparts m0 = ([0,0,2],0) := by
 obtain ⟨h1,h2,h3⟩ := eparts_law m0_mesh
 refine ⟨h1,Prod.ext ?_ h2⟩
 have hlen : (eparts m0).1.length = 3 := h3.len
 have v0 := h3.val 0 (m0_has (by decide) (by decide))
 have v2 := h3.val 2 (m0_has (by decide) (by decide))
 have a1 := h3.adj 0 1 (m0_has (by decide) (by decide)) ((m0_adj (m0_has (by decide) (by decide))).2 (.inl ⟨rfl,rfl⟩))
 generalize (eparts m0).1 = p at hlen v0 v2 a1
 match p,hlen with
 | [a,b,c],_ =>
  have e0 : gp [a,b,c] 0 = a := rfl
  have e1 : gp [a,b,c] 1 = b := rfl
  have e2 : gp [a,b,c] 2 = c := rfl
  rw [e0] at v0 a1
  rw [e1] at a1
  rw [e2] at v2
  have hc := v2.2.2.2
  have : ¬ c < 2 := fun q => by have := m0_cn hc q; omega
  obtain rfl : a = 0 := by omega
  obtain rfl : b = 0 := a1
  obtain rfl : c = 2 := by omega
  rfl
theorem l0_sml : Sml l0 := ⟨by decide,by decide⟩
theorem m0_find : efind_pre (l0,(2,1)) ∧ efind (l0,(2,1)) = ((1,(2,[0,1])),true) :=
 efind_hit l0_sml (e := (1,(2,[0,1]))) (by decide) (.inr ⟨rfl,rfl⟩) (by unfold eatP; decide)
theorem edged_law : edged_pre false ∧ edged false = true := by
 have ep := (eedges_law m0_mesh).1
 obtain ⟨n1,n2⟩ := m0_next
 obtain ⟨n3,n4⟩ := m0_none
 obtain ⟨p1,p2⟩ := m0_parts
 obtain ⟨f1,f2⟩ := m0_find
 obtain ⟨u1,u2⟩ := eloose_law l0_sml
 constructor
 ·unfold edged_pre
  dsimp only [letP]
  rw [show (List.replicate 7 ((0:Int),((0:Int),(0:Int))),(([] : List P2),(([] : List P3),[three (0,(1,2)),three (2,(1,3)),three (4,(5,6))]))) = m0 from rfl,m0_edges]
  refine ⟨ep,n1,p1,f1,n3,fun _ _ => ?_⟩
  refine ⟨by decide,by decide,by decide,by decide,fun _ => ⟨by decide,by decide,by decide,by decide,fun _ => ⟨by decide,by decide,by decide,by decide,(same01_law (by decide)).1,fun _ _ => ⟨?_,fun _ _ => ⟨?_,fun _ _ _ => u1⟩⟩⟩⟩⟩
  ·show same01_pre ((enext (m0,0)).1,[1])
   rw [n2]
   exact (same01_law (by decide)).1
  ·show same01_pre ((eparts m0).1,[0,0,2])
   rw [p2]
   exact (same01_law (by decide)).1
 ·unfold edged
  dsimp only [letV]
  rw [show (List.replicate 7 ((0:Int),((0:Int),(0:Int))),(([] : List P2),(([] : List P3),[three (0,(1,2)),three (2,(1,3)),three (4,(5,6))]))) = m0 from rfl,m0_edges]
  dsimp only
  rw [n2,n4,p2,f2,u2,show l0.getD 2 (0,(0,[])) = (1,(2,[0,1])) from rfl]
  dsimp only
  rw [(same01_law (x := [0,1]) (y := [0,1]) (by decide)).2,(same01_law (x := [1]) (y := [1]) (by decide)).2,(same01_law (x := [0,0,2]) (y := [0,0,2]) (by decide)).2]
  decide
end Go.Proofs.Ytleemdeodmdnkaa

namespace Go.Proofs.Ytleemdeodmdnkaa
open Go Go.Ev Go.Proofs
theorem letP_i {α : Type} {v : α} {f : α → Prop} (h : f v) : letP v f := h
theorem cS_r {α β : Type} {x : α ⊕ β} {b : β} {f : α → Prop} {g : β → Prop} (e : x = .inr b) (h : g b) : cS x f g := by subst e; exact h
theorem letV_e {α β : Type} (v : α) (f : α → β) : letV v f = f v := rfl
theorem EdOf.sml {m : Msh} {l : List EdgeV} (h : EdOf m l) (hn : m.2.2.2.length ≤ 500) (hl : l.length ≤ 1500) : Sml l := by
 refine ⟨by omega,fun e he => ?_⟩
 rw [((h.2 e).1 he).1]
 unfold Tris
 rw [List.length_map]
 refine Nat.le_trans (List.length_filter_le _ _) ?_
 rw [List.length_range]; omega
end Go.Proofs.Ytleemdeodmdnkaa
