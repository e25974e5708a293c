/- Plain laws: the reference's 'Grow' grows what the program grows. -/
import Derived.Test.YtkbmjhabfjgoiaaGreatNa
noncomputable section
set_option linter.unusedSectionVars false
set_option linter.unusedVariables false
set_option linter.unusedSimpArgs false
namespace Go.Proofs.YtkbmjhabfjgoiaaGreat
open Go Go.Ev Go.Proofs
def numsI (n:Nat) : List Int := (List.range n).map fun k : Nat => (k:Int)
theorem nums_get {n i : Nat} (h : i < n) : (numsI n)[i]? = some (i:Int) := by
 unfold numsI
 rw [List.getElem?_map,List.getElem?_range h]; rfl
theorem nums_len (n:Nat) : (numsI n).length = n := by unfold numsI; simp
theorem nums_mem {n : Nat} {x : Int} : x ∈ numsI n ↔ 0 ≤ x ∧ x < n := by
 unfold numsI
 rw [List.mem_map]
 constructor
 ·rintro ⟨k,hk,rfl⟩
  have := List.mem_range.1 hk
  omega
 ·rintro ⟨h1,h2⟩
  exact ⟨x.toNat,List.mem_range.2 (by omega),by omega⟩
theorem nums_lt (n:Nat) : (numsI n).Pairwise (· < ·) := by
 unfold numsI
 rw [List.pairwise_map]
 exact List.pairwise_lt_range.imp fun h => by omega
def freeP (m : Msh) (tk : List Bool) (i:Int) : Bool := !(tk.getD i.toNat false) && (Way m i).2
def freeOf (m : Msh) (tk : List Bool) : List Int := (numsI m.2.2.2.length).filter (freeP m tk)
theorem freeOf_lt (m : Msh) (tk : List Bool) : (freeOf m tk).Pairwise (· < ·) := (nums_lt _).filter _
theorem freeOf_mem {m : Msh} {tk : List Bool} {x : Int} : x ∈ freeOf m tk ↔ Has m x ∧ tk.getD x.toNat false = false ∧ (Way m x).2 = true := by
 unfold freeOf freeP
 rw [List.mem_filter,nums_mem]
 simp
theorem freeOf_none (m : Msh) : freeOf m (List.replicate m.2.2.2.length false) = Free0 m := by
 unfold freeOf Free0
 refine List.filter_congr fun x _ => ?_
 unfold freeP
 have : (List.replicate m.2.2.2.length false).getD x.toNat false = false := by
  rw [List.getD_eq_getElem?_getD,List.getElem?_replicate]
  split <;> rfl
 rw [this]; rfl
theorem filter_erase : ∀ {l : List Int} {k : Nat},l.Pairwise (· < ·) → k < l.length → l.filter (fun x => !(x == l.getD k 0)) = l.eraseIdx k
 | a :: r,0,h,_ => by
  rw [List.pairwise_cons] at h
  show (a :: r).filter (fun x => !(x == a)) = r
  rw [List.filter_cons_of_neg (by simp)]
  refine List.filter_eq_self.2 fun x hx => ?_
  have h1 : a < x := h.1 x hx
  have h2 : x ≠ a := by omega
  simp [h2]
 | a :: r,k + 1,h,hk => by
  rw [List.pairwise_cons] at h
  have hk' : k < r.length := by simpa using hk
  have hm := getD_in hk' (0:Int)
  have h1 : a < r.getD k 0 := h.1 _ hm
  have h2 : a ≠ r.getD k 0 := by omega
  show (a :: r).filter (fun x => !(x == r.getD k 0)) = a :: r.eraseIdx k
  rw [List.filter_cons_of_pos (by simp only [Bool.not_eq_true',beq_eq_false_iff_ne]; exact h2),filter_erase h.2 hk']
theorem freeOf_set {m : Msh} {tk : List Bool} {k : Nat} (hl : tk.length = m.2.2.2.length) (hk : k < (freeOf m tk).length) : freeOf m (tk.set ((freeOf m tk).getD k 0).toNat true) = (freeOf m tk).eraseIdx k := by
 rw [← filter_erase (freeOf_lt m tk) hk]
 obtain ⟨a,ha⟩ : ∃ a,a = (freeOf m tk).getD k 0 := ⟨_,rfl⟩
 rw [← ha]
 have ham : a ∈ freeOf m tk := by rw [ha]; exact getD_in hk 0
 have hh := (freeOf_mem.1 ham).1
 have h1 := hh.1
 have h2 := hh.2
 conv => rhs; unfold freeOf
 rw [List.filter_filter]
 unfold freeOf
 refine List.filter_congr fun x hx => ?_
 have hx := nums_mem.1 hx
 unfold freeP
 have e : (tk.set a.toNat true).getD x.toNat false = if x = a then true else tk.getD x.toNat false := by
  rw [List.getD_eq_getElem?_getD,List.getElem?_set]
  by_cases h : x = a
  ·subst h
   rw [if_pos rfl,if_pos rfl,if_pos (by omega)]; rfl
  ·rw [if_neg (by omega),if_neg h,List.getD_eq_getElem?_getD]
 rw [e]
 by_cases h : x = a
 ·rw [if_pos h]; simp [h]
 ·rw [if_neg h]; simp [h]
theorem idx_find (f : Int → Bool) (d:Int) : ∀ L : List Int,(match L.findIdx? f with | some k => L.getD k 0 | none => d) = (L.find? f).getD d
 | [] => rfl
 | a :: r => by
  have ih := idx_find f d r
  rw [List.findIdx?_cons,List.find?_cons]
  cases f a with
  | true => rfl
  | false =>
   dsimp only
   rw [← ih]
   cases r.findIdx? f with
   | none => rfl
   | some k => rfl
theorem find_filter (p f : Int → Bool) : ∀ L : List Int,(L.filter p).find? f = L.find? fun x => p x && f x
 | [] => rfl
 | a :: r => by
  have ih := find_filter p f r
  rw [List.find?_cons]
  cases hp : p a with
  | true =>
   rw [List.filter_cons_of_pos hp,List.find?_cons]
   cases hf : f a with
   | true => rfl
   | false => exact ih
  | false =>
   rw [List.filter_cons_of_neg (by rw [hp]; decide)]
   exact ih
theorem r15least_law {m : Msh} (hV : m.1.length < 4611686018427387904) (hm : tameB m = true) (c : Chr) (tk : List Bool) (hl : tk.length = m.2.2.2.length) (hall : ∀ k ∈ c.2.2,Way m k = (cw c,true)) (hc : c.2.2.length ≤ 1000) :
  r15least_pre (m,(c,tk)) ∧ r15least (m,(c,tk)) = match (freeOf m tk).findIdx? (fb m (cw c) c.2.2) with | some k => (freeOf m tk).getD k 0 | none => -1 := by
 have hn := (mesh_len (tame_mesh hm)).2.2.2
 have hbad : ∀ x : Int,(!(tk.getD x.toNat false) && r15fits (m,(c,x))) = (freeP m tk x && fb m (cw c) c.2.2 x) := fun x => by
  obtain ⟨_,r2⟩ := r15fits_law hV c hc x
  obtain ⟨_,p2⟩ := pfits_any hm (w := cw c) (l := c.2.2) hc (fun k hk => (way_has (hall k hk)).1) x
  have h1 : r15fits (m,(c,x)) = fb m (cw c) c.2.2 x := by
   unfold fb
   rw [Bool.eq_iff_iff,r2,p2]
   exact ⟨fun h => h.2.2,fun h => ⟨hm,hall,h⟩⟩
  have h2 : fb m (cw c) c.2.2 x = true → (Way m x).2 = true := fun h => by
   rw [(p2.1 h).way]
  unfold freeP
  rw [h1]
  cases hb : fb m (cw c) c.2.2 x with
  | false => simp
  | true => rw [h2 hb]; simp
 have key := index_loop (numsI m.2.2.2.length) (by rw [nums_len]; omega) (fun x => !(tk.getD x.toNat false) && r15fits (m,(c,x))) (r15least_l0_step (m,(c,tk))) (r15least_l0_pre (m,(c,tk))) (fun i hi => by
   unfold r15least_l0_pre
   intro h
   rw [Int.toNat_natCast]
   dsimp only at h ⊢
   exact ⟨⟨by omega,by omega⟩,by omega,by omega,fun _ => (r15fits_law hV c hc _).1⟩) (fun i x hx => by
   have hlt := lt_of_get hx
   rw [nums_len] at hlt
   rw [nums_get hlt] at hx
   cases hx
   unfold r15least_l0_step
   dsimp only [letV]
   rw [if_pos (by omega),Int.toNat_natCast]
   cases tk.getD i false with
   | true =>
    rw [if_neg (by decide)]
    simp
   | false =>
    rw [if_pos (by decide)]
    simp) (by
   unfold r15least_l0_step
   rw [nums_len]
   rw [if_neg (by dsimp only; omega)])
 refine ⟨key.1,?_⟩
 have e1 : r15least (m,(c,tk)) = match (numsI m.2.2.2.length).findIdx? (fun x => !(tk.getD x.toNat false) && r15fits (m,(c,x))) with | some i => (i:Int) | none => -1 := key.2
 have e2 : (match (numsI m.2.2.2.length).findIdx? (fun x => !(tk.getD x.toNat false) && r15fits (m,(c,x))) with | some i => (i:Int) | none => -1) = (match (numsI m.2.2.2.length).findIdx? (fun x => !(tk.getD x.toNat false) && r15fits (m,(c,x))) with | some k => (numsI m.2.2.2.length).getD k 0 | none => -1) := by
  cases h : (numsI m.2.2.2.length).findIdx? (fun x => !(tk.getD x.toNat false) && r15fits (m,(c,x))) with
  | none => rfl
  | some i =>
   rw [List.findIdx?_eq_some_iff_getElem] at h
   obtain ⟨h1,_⟩ := h
   rw [nums_len] at h1
   show (i:Int) = (numsI m.2.2.2.length).getD i 0
   rw [List.getD_eq_getElem?_getD,nums_get h1]; rfl
 rw [e1,e2,idx_find,idx_find]
 unfold freeOf
 rw [find_filter]
 congr 1
 congr 1
 funext x
 exact hbad x
theorem find_way {m : Msh} (hm : tameB m = true) {w : P2} {l free : List Int} (hl : l.length ≤ 1000) (hk : ∀ k ∈ l,Way m k = (w,true)) {j : Nat} (h : free.findIdx? (fb m w l) = some j) : j < free.length ∧ Way m (free.getD j 0) = (w,true) := by
 rw [List.findIdx?_eq_some_iff_getElem] at h
 obtain ⟨h1,h2,_⟩ := h
 refine ⟨h1,?_⟩
 rw [List.getD_eq_getElem?_getD,List.getElem?_eq_getElem h1]
 exact ((pfits_any hm hl (fun k hk' => (way_has (hk k hk')).1) _).2.1 h2).way
theorem rpick_in {m : Msh} (hV : m.1.length < 4611686018427387904) (hm : tameB m = true) (tk : List Bool) (htk : tk.length = m.2.2.2.length) (i:Int) (F : List Int) (hF : freeOf m tk = i :: F) (w : P2) (hw : Way m i = (w,true)) (out : List Chr) :
  TR (r15grow_l2_step m) (r15grow_l2_pre m) (tk,(out,(i,(w.1,(w.2,([],i)))))) (fun r => ∃ tk',r = (tk',(out,(i,(w.1,(w.2,(pick m w (F.length + 1) [i] F).1))))) ∧ tk'.length = m.2.2.2.length ∧ freeOf m tk' = (pick m w (F.length + 1) [i] F).2) := by
 have hn := (mesh_len (tame_mesh hm)).2.2.2
 have hfl : ∀ t,(freeOf m t).length ≤ 500 := fun t => Nat.le_trans (List.length_filter_le _ _) (by rw [nums_len]; exact hn)
 have hFl := hfl tk
 rw [hF,List.length_cons] at hFl
 generalize hR : pick m w (F.length + 1) [i] F = R
 refine TR.inv (fun s => ∃ (t : List Bool) (tris : List Int) (at':Int),s = (t,(out,(i,(w.1,(w.2,(tris,at')))))) ∧ t.length = m.2.2.2.length ∧ (∀ k ∈ tris,Way m k = (w,true)) ∧ tris.length + (freeOf m t).length = F.length + 1 ∧ ((at' = -1 ∧ R = (tris,freeOf m t)) ∨ ∃ k n : Nat,k < (freeOf m t).length ∧ at' = (freeOf m t).getD k 0 ∧ Way m at' = (w,true) ∧ (freeOf m t).length ≤ n + 1 ∧ pick m w n (tris ++ [at']) ((freeOf m t).eraseIdx k) = R)) (fun s => (freeOf m s.1).length) (fun s ⟨t,tris,at',e,h1,h2,h3,ha⟩ => ?_) ⟨tk,[],i,rfl,htk,by simp,by rw [hF]; simp,.inr ⟨0,F.length + 1,by rw [hF]; simp,by rw [hF]; rfl,hw,by rw [hF,List.length_cons]; omega,by rw [hF]; exact hR⟩⟩
 subst e
 rcases ha with ⟨rfl,hRR⟩ | ⟨k,n,hk,hat,haw,hfu,hRR⟩
 ·refine ⟨?_,fun s' h => ?_,fun r h => ?_⟩
  ·unfold r15grow_l2_pre
   dsimp only
   intro h; omega
  ·unfold r15grow_l2_step at h
   dsimp only at h
   rw [if_neg (by omega)] at h
   cases h
  ·unfold r15grow_l2_step at h
   dsimp only at h
   rw [if_neg (by omega)] at h
   cases h
   rw [hRR]
   exact ⟨t,rfl,h1,rfl⟩
 ·have hah := (way_has haw).1
  have ha1 := hah.1
  have ha2 := hah.2
  have hset : freeOf m (t.set at'.toNat true) = (freeOf m t).eraseIdx k := by rw [hat]; exact freeOf_set h1 hk
  have hl' : (t.set at'.toNat true).length = m.2.2.2.length := by rw [List.length_set]; exact h1
  have hall : ∀ q ∈ tris ++ [at'],Way m q = (w,true) := fun q hq => by
   rw [List.mem_append,List.mem_singleton] at hq
   rcases hq with hq | rfl
   ·exact h2 q hq
   ·exact haw
  have htl : (tris ++ [at']).length ≤ 1000 := by rw [List.length_append,List.length_singleton]; omega
  obtain ⟨l1,l2⟩ := r15least_law hV hm (w.1,(w.2,tris ++ [at'])) (t.set at'.toNat true) hl' hall htl
  rw [hset] at l2
  have hst : r15grow_l2_step m (t,(out,(i,(w.1,(w.2,(tris,at')))))) = .inl (t.set at'.toNat true,(out,(i,(w.1,(w.2,(tris ++ [at'],match ((freeOf m t).eraseIdx k).findIdx? (fb m w (tris ++ [at'])) with | some k' => ((freeOf m t).eraseIdx k).getD k' 0 | none => -1)))))) := by
   unfold r15grow_l2_step
   dsimp only [letV]
   rw [if_pos (by omega),l2]
  have hel : ((freeOf m t).eraseIdx k).length = (freeOf m t).length - 1 := List.length_eraseIdx_of_lt hk
  refine ⟨?_,fun s' h => ?_,fun r h => ?_⟩
  ·unfold r15grow_l2_pre
   dsimp only [letP]
   intro _
   exact ⟨⟨by omega,by omega⟩,by omega,by omega,by omega,l1⟩
  ·rw [hst] at h
   cases h
   refine ⟨⟨_,_,_,rfl,hl',hall,by rw [hset,hel,List.length_append,List.length_singleton]; omega,?_⟩,?_⟩
   ·rw [hset]
    cases n with
    | zero =>
     have h00 : (freeOf m t).eraseIdx k = [] := List.eq_nil_of_length_eq_zero (by omega)
     rw [h00]
     refine .inl ⟨rfl,?_⟩
     rw [← hRR,pick,h00]
    | succ n =>
     rw [pick] at hRR
     cases hfi : ((freeOf m t).eraseIdx k).findIdx? (fb m w (tris ++ [at'])) with
     | none =>
      rw [hfi] at hRR
      exact .inl ⟨rfl,hRR.symm⟩
     | some j =>
      rw [hfi] at hRR
      obtain ⟨q1,q2⟩ := find_way hm htl hall hfi
      exact .inr ⟨j,n,q1,rfl,q2,by omega,hRR⟩
   ·show (freeOf m (t.set at'.toNat true)).length < (freeOf m t).length
    rw [hset,hel]; omega
  ·rw [hst] at h; cases h
theorem head_of {L : List Int} (hs : L.Pairwise (· < ·)) {i : Int} (hi : i ∈ L) (hge : ∀ x ∈ L,i ≤ x) : ∃ F,L = i :: F := by
 cases L with
 | nil => cases hi
 | cons a F =>
  rw [List.pairwise_cons] at hs
  have h1 := hge a List.mem_cons_self
  rcases List.mem_cons.1 hi with rfl | h
  ·exact ⟨F,rfl⟩
  ·have := hs.1 i h
   have : a < i := this
   omega
theorem r15grow_out {m : Msh} (hV : m.1.length < 4611686018427387904) (hm : tameB m = true) : TR (r15grow_l0_step m) (r15grow_l0_pre m) (List.replicate m.2.2.2.length false,([],0)) (fun r => r = growA m (Free0 m).length (Free0 m) []) := by
 have hn := (mesh_len (tame_mesh hm)).2.2.2
 have hf0 := free0_len m
 generalize hR : growA m (Free0 m).length (Free0 m) [] = R
 refine for_loop m.2.2.2.length (fun i s => ∃ (t : List Bool) (out : List Chr) (k:Nat),s = (t,(out,(i:Int))) ∧ t.length = m.2.2.2.length ∧ (∀ x ∈ freeOf m t,(i:Int) ≤ x) ∧ (freeOf m t).length ≤ k ∧ growA m k (freeOf m t) out = R ∧ out.length + (freeOf m t).length ≤ 500) _ (fun i s hi ⟨t,out,k,e,h1,h2,h3,h4,h5⟩ => ?_) (fun s ⟨t,out,k,e,h1,h2,h3,h4,h5⟩ => ?_) ⟨_,[],_,rfl,List.length_replicate,fun x hx => (freeOf_mem.1 hx).1.1,Nat.le_refl _,by rw [freeOf_none]; exact hR,by rw [freeOf_none]; simp; omega⟩
 ·subst e
  have hh : Has m (i:Int) := ⟨by omega,by omega⟩
  obtain ⟨f1,f2⟩ := r15facing_way hV hm (i:Int)
  have hskip : (i:Int) ∉ freeOf m t → ∀ x ∈ freeOf m t,((i + 1:Nat):Int) ≤ x := fun hno x hx => by
   have := h2 x hx
   have : x ≠ (i:Int) := fun e => hno (e ▸ hx)
   omega
  cases hw : (Way m (i:Int)).2 with
  | false =>
   constructor
   ·unfold r15grow_l0_pre
    dsimp only [letP]
    intro _
    refine ⟨f1,fun h => ?_⟩
    rw [f2] at h
    exact absurd (by dsimp only; rw [hw]; rfl) h
   ·refine .inl ?_
    unfold r15grow_l0_step
    dsimp only [letV]
    rw [if_pos (by omega),f2]
    dsimp only
    rw [hw,if_pos (by decide),cnt (n := 500) (by omega) (by omega)]
    exact ⟨_,rfl,t,out,k,rfl,h1,hskip (fun h => by rw [(freeOf_mem.1 h).2.2] at hw; cases hw),h3,h4,h5⟩
  | true =>
   have hww : Way m (i:Int) = ((Way m (i:Int)).1,true) := way_some.1 hw
   cases ht : t.getD i false with
   | true =>
    constructor
    ·unfold r15grow_l0_pre
     dsimp only [letP]
     intro _
     rw [Int.toNat_natCast]
     exact ⟨f1,fun _ => ⟨⟨by omega,by omega⟩,by omega,by omega,fun h => absurd ht h⟩⟩
    ·refine .inl ?_
     unfold r15grow_l0_step
     dsimp only [letV]
     rw [if_pos (by omega),f2]
     dsimp only
     rw [hw,if_neg (by decide),Int.toNat_natCast,if_pos ht,cnt (n := 500) (by omega) (by omega)]
     exact ⟨_,rfl,t,out,k,rfl,h1,hskip (fun h => by have := (freeOf_mem.1 h).2.1; rw [Int.toNat_natCast,ht] at this; cases this),h3,h4,h5⟩
   | false =>
    have hmem : (i:Int) ∈ freeOf m t := freeOf_mem.2 ⟨hh,by rw [Int.toNat_natCast]; exact ht,hw⟩
    obtain ⟨F,hF⟩ := head_of (freeOf_lt m t) hmem h2
    have hin := rpick_in hV hm t h1 (i:Int) F hF (Way m (i:Int)).1 hww out
    obtain ⟨g1,t',g2,g3,g4⟩ := hin
    rw [hF,List.length_cons] at h3 h5
    have hps := pick_sub m (Way m (i:Int)).1 (F.length + 1) [(i:Int)] F
    have hpsl := hps.length_le
    constructor
    ·unfold r15grow_l0_pre
     dsimp only [letP]
     intro _
     rw [Int.toNat_natCast,f2]
     dsimp only
     refine ⟨f1,fun _ => ⟨⟨by omega,by omega⟩,by omega,by omega,fun _ => ⟨g1,?_⟩⟩⟩
     rw [g2]
     dsimp only
     omega
    ·refine .inl ?_
     unfold r15grow_l0_step
     dsimp only [letV]
     rw [if_pos (by omega),f2]
     dsimp only
     rw [hw,if_neg (by decide),Int.toNat_natCast,if_neg (by rw [ht]; decide),g2]
     dsimp only
     rw [cnt (n := 500) (by omega) (by omega)]
     cases k with
     | zero => omega
     | succ k =>
      rw [hF,growA] at h4
      refine ⟨_,rfl,t',_,k,rfl,g3,fun x hx => ?_,by rw [g4]; omega,by rw [g4]; exact h4,by rw [g4,List.length_append,List.length_singleton]; omega⟩
      rw [g4] at hx
      have hx := hps.subset hx
      have hs := freeOf_lt m t
      rw [hF,List.pairwise_cons] at hs
      have : (i:Int) < x := hs.1 x hx
      omega
 ·subst e
  have h00 : freeOf m t = [] := by
   cases hfo : freeOf m t with
   | nil => rfl
   | cons a r =>
    have ha : a ∈ freeOf m t := by rw [hfo]; exact List.mem_cons_self
    have q1 := h2 a ha
    have q2 := (freeOf_mem.1 ha).1.2
    omega
  constructor
  ·unfold r15grow_l0_pre
   dsimp only
   intro h; omega
  ·unfold r15grow_l0_step
   dsimp only
   rw [if_neg (by omega)]
   refine ⟨_,rfl,?_⟩
   rw [h00] at h4
   rw [← h4]
   cases k <;> rfl
theorem r15grow_law {m : Msh} (hV : m.1.length < 4611686018427387904) : r15grow_pre m ∧ r15grow m = cgrow m := by
 obtain ⟨t1,t2⟩ := r15tame_law m hV
 cases hm : tameB m with
 | false =>
  rw [(cgrow_law m).2.2 hm]
  unfold r15grow_pre r15grow
  dsimp only [letP,letV]
  rw [t2,hm,if_pos (by decide)]
  exact ⟨⟨t1,fun h => absurd rfl h⟩,rfl⟩
 | true =>
  have hn := (mesh_len (tame_mesh hm)).2.2.2
  have h := r15grow_out hV hm
  rw [cgrow_fun hm]
  unfold r15grow_pre r15grow
  dsimp only [letP,letV]
  rw [t2,hm,if_neg (by decide),h.2]
  exact ⟨⟨t1,fun _ => ⟨⟨by omega,by omega⟩,h.1⟩⟩,rfl⟩
end Go.Proofs.YtkbmjhabfjgoiaaGreat

namespace Go.Proofs.YtkbmjhabfjgoiaaGreat
open Go Go.Ev Go.Proofs
theorem r15is_in {m : Msh} (hV : m.1.length < 4611686018427387904) (hm : tameB m = true) (l : List Chr) (idx:Nat) (hidx : idx < l.length) (hs : (l.getD idx zC).2.2.length ≤ 1000) (L : List Int) (hL : L.length ≤ 1000000) :
  TR (r15is_l2_step (m,l)) (r15is_l2_pre (m,l)) (Many m.2.2.2.length L,((idx:Int),((l.getD idx zC).1,((l.getD idx zC).2.1,([],0)))))
   (fun r => (Good m (cw (l.getD idx zC)) (l.getD idx zC).2.2 ∧ r = .inr (Many m.2.2.2.length (L ++ (l.getD idx zC).2.2),(idx:Int))) ∨ (¬ Good m (cw (l.getD idx zC)) (l.getD idx zC).2.2 ∧ r = .inl ())) := by
 have hn := (mesh_len (tame_mesh hm)).2.2.2
 obtain ⟨c,hc⟩ : ∃ c,c = l.getD idx zC := ⟨_,rfl⟩
 rw [← hc] at hs ⊢
 have hc' : l.getD idx (0,(0,[])) = c := hc.symm
 have b : (0:Int) ≤ (idx:Int) ∧ (idx:Int) < ((l.length:Nat):Int) := ⟨by omega,by omega⟩
 refine for_loop c.2.2.length (fun j s => s = (Many m.2.2.2.length (L ++ c.2.2.take j),((idx:Int),(c.1,(c.2.1,(c.2.2.take j,(j:Int)))))) ∧ ∀ k,k < j → FitsP m (cw c) (c.2.2.take k) (c.2.2.getD k 0)) _ (fun j s hj ⟨e,hgd⟩ => ?_) (fun s ⟨e,hgd⟩ => ?_) ⟨by simp,fun k hk => absurd hk (Nat.not_lt_zero _)⟩
 ·subst e
  have hway : ∀ k ∈ c.2.2.take j,Way m k = (cw c,true) := fun k hk => by
   obtain ⟨q,hq,e⟩ := mem_getD hk 0
   rw [List.length_take] at hq
   have := (hgd q (by omega)).way
   rw [List.getD_eq_getElem?_getD,List.getElem?_take,if_pos (by omega),← List.getD_eq_getElem?_getD] at e
   rw [e] at this
   exact this
  obtain ⟨p1,p2⟩ := r15fits_law hV (c.1,(c.2.1,c.2.2.take j)) (by dsimp only; rw [List.length_take]; omega) (c.2.2.getD j 0)
  have p2 : r15fits (m,((c.1,(c.2.1,c.2.2.take j)),c.2.2.getD j 0)) = true ↔ FitsP m (cw c) (c.2.2.take j) (c.2.2.getD j 0) := p2.trans ⟨fun h => h.2.2,fun h => ⟨hm,hway,h⟩⟩
  have hlt : (L ++ c.2.2.take j).length ≤ 2000000 := by rw [List.length_append,List.length_take]; omega
  constructor
  ·unfold r15is_l2_pre
   dsimp only [letP]
   simp only [Int.toNat_natCast,hc']
   refine ⟨b,hidx,hidx,hidx,fun _ => ⟨b,hidx,hidx,hidx,⟨by omega,by omega⟩,hj,hj,p1,fun q => ?_⟩⟩
   have hf : FitsP m (cw c) (c.2.2.take j) (c.2.2.getD j 0) := p2.1 (by simpa using q)
   have hh := (way_has hf.way).1
   simp only [many_len]
   refine ⟨?_,hh,by omega,by omega,hh,by omega,by omega⟩
   rw [List.length_take]; omega
  ·unfold r15is_l2_step
   dsimp only [letV]
   simp only [Int.toNat_natCast,hc']
   rw [if_pos (by omega)]
   by_cases hf : FitsP m (cw c) (c.2.2.take j) (c.2.2.getD j 0)
   ·have hh := (way_has hf.way).1
    rw [p2.2 hf,if_neg (by decide),many_snoc hh hlt,cnt (n := 1000) (by omega) (by omega)]
    refine .inl ⟨_,rfl,?_,fun k hk => ?_⟩
    ·rw [take_snoc hj 0,List.append_assoc]
    ·rcases Nat.lt_or_ge k j with h1 | h1
     ·exact hgd k h1
     ·rw [show k = j by omega]; exact hf
   ·have hf' : r15fits (m,((c.1,(c.2.1,c.2.2.take j)),c.2.2.getD j 0)) = false := by
     cases h : r15fits (m,((c.1,(c.2.1,c.2.2.take j)),c.2.2.getD j 0)) with
     | false => rfl
     | true => exact absurd (p2.1 h) hf
    rw [hf',if_pos (by decide)]
    exact .inr ⟨_,rfl,.inr ⟨fun h => hf (h j hj),rfl⟩⟩
 ·subst e
  constructor
  ·unfold r15is_l2_pre
   dsimp only
   simp only [Int.toNat_natCast,hc']
   exact ⟨b,hidx,hidx,hidx,fun h => absurd h (Int.lt_irrefl _)⟩
  ·unfold r15is_l2_step
   dsimp only
   simp only [Int.toNat_natCast,hc']
   rw [if_neg (Int.lt_irrefl _),List.take_length]
   exact ⟨_,rfl,.inl ⟨hgd,rfl⟩⟩
theorem r15is_out {m : Msh} (hV : m.1.length < 4611686018427387904) (hm : tameB m = true) {l : List Chr} (hs : ∀ c ∈ l,c.2.2.length ≤ 1000) (hll : l.length ≤ 1000) : TR (r15is_l0_step (m,l)) (r15is_l0_pre (m,l)) (List.replicate m.2.2.2.length 0,0)
  (fun r => ((∀ c ∈ l,c.2.2 ≠ [] ∧ Good m (cw c) c.2.2) ∧ r = .inr (Many m.2.2.2.length (l.flatMap (·.2.2)))) ∨ ((¬ ∀ c ∈ l,c.2.2 ≠ [] ∧ Good m (cw c) c.2.2) ∧ r = .inl ())) := by
 refine for_loop l.length (fun i s => s = (Many m.2.2.2.length ((l.take i).flatMap (·.2.2)),(i:Int)) ∧ ∀ c ∈ l.take i,c.2.2 ≠ [] ∧ Good m (cw c) c.2.2) _ (fun i s hi ⟨e,hgd⟩ => ?_) (fun s ⟨e,hgd⟩ => ?_) ⟨by rw [← many_nil]; rfl,by simp⟩
 ·subst e
  have hc : l.getD i zC ∈ l := getD_in hi zC
  have hL := flat_len (l := l.take i) fun c hc => hs c (List.mem_of_mem_take hc)
  have hL' : ((l.take i).flatMap (·.2.2)).length ≤ 1000000 := by rw [List.length_take] at hL; omega
  have hin := r15is_in hV hm l i hi (hs _ hc) ((l.take i).flatMap (·.2.2)) hL'
  have b : (0:Int) ≤ (i:Int) ∧ (i:Int) < ((l.length:Nat):Int) := ⟨by omega,by omega⟩
  constructor
  ·unfold r15is_l0_pre
   dsimp only
   intro _
   rw [Int.toNat_natCast]
   exact ⟨b,hi,hi,hi,b,hi,hi,hi,b,hi,hi,hi,fun _ => hin.1⟩
  ·unfold r15is_l0_step
   dsimp only [letV]
   rw [if_pos (by omega),Int.toNat_natCast]
   by_cases hne : (l.getD i zC).2.2 = []
   ·rw [if_pos (by rw [show (l.getD i (0,(0,[]))).2.2 = [] from hne]; rfl)]
    exact .inr ⟨_,rfl,.inr ⟨fun h => (h _ hc).1 hne,rfl⟩⟩
   ·rw [if_neg (by simpa using hne)]
    rcases hin.2 with ⟨h1,h2⟩ | ⟨h1,h2⟩
    ·rw [h2]
     dsimp only [Sum.elim]
     rw [cnt (n := 1000) (by omega) (by omega)]
     refine .inl ⟨_,rfl,?_,fun c hc' => ?_⟩
     ·rw [take_snoc hi zC,List.flatMap_append]
      simp
     ·rw [take_snoc hi zC,List.mem_append,List.mem_singleton] at hc'
      rcases hc' with hc' | rfl
      ·exact hgd c hc'
      ·exact ⟨hne,h1⟩
    ·rw [h2]
     exact .inr ⟨_,rfl,.inr ⟨fun h => h1 (h _ hc).2,rfl⟩⟩
 ·subst e
  constructor
  ·unfold r15is_l0_pre
   dsimp only
   intro h; omega
  ·unfold r15is_l0_step
   dsimp only
   rw [if_neg (by omega)]
   rw [List.take_length] at hgd ⊢
   exact ⟨_,rfl,.inl ⟨hgd,rfl⟩⟩
theorem r15is_all {m : Msh} (hV : m.1.length < 4611686018427387904) (hm : tameB m = true) (l : List Chr) (L : List Int) : TR (r15is_l4_step (m,l)) (r15is_l4_pre (m,l)) (Many m.2.2.2.length L,0)
  (fun r => (r = .inr () ∧ ∀ k : Nat,k < m.2.2.2.length → (Way m k).2 = true → L.count (k:Int) = 1) ∨ (r = .inl () ∧ ∃ k : Nat,k < m.2.2.2.length ∧ (Way m k).2 = true ∧ L.count (k:Int) ≠ 1)) := by
 have hn := (mesh_len (tame_mesh hm)).2.2.2
 refine for_loop m.2.2.2.length (fun i s => s = (Many m.2.2.2.length L,(i:Int)) ∧ ∀ k : Nat,k < i → (Way m k).2 = true → L.count (k:Int) = 1) _ (fun i s hi ⟨e,hb⟩ => ?_) (fun s ⟨e,hb⟩ => ?_) ⟨rfl,fun k hk => absurd hk (Nat.not_lt_zero _)⟩
 ·subst e
  obtain ⟨h1,h2⟩ := r15facing_way hV hm (i:Int)
  have hnext : ((Way m i).2 = true → L.count (i:Int) = 1) → ∀ k : Nat,k < i + 1 → (Way m k).2 = true → L.count (k:Int) = 1 := fun hh k hk hw => by
   rcases Nat.lt_or_ge k i with h3 | h3
   ·exact hb k h3 hw
   ·have : k = i := by omega
    subst this
    exact hh hw
  constructor
  ·unfold r15is_l4_pre
   dsimp only [letP]
   intro _
   rw [many_len,Int.toNat_natCast]
   exact ⟨h1,fun _ => ⟨⟨by omega,by omega⟩,hi,hi⟩⟩
  ·unfold r15is_l4_step
   dsimp only [letV]
   rw [if_pos (by omega),h2,Int.toNat_natCast,many_get hi,cnt (n := 500) (by omega) (by omega)]
   dsimp only
   cases hw : (Way m (i:Int)).2 with
   | false =>
    rw [if_neg (by decide)]
    exact .inl ⟨_,rfl,rfl,hnext fun h => by rw [hw] at h; cases h⟩
   | true =>
    rw [if_pos rfl]
    by_cases hc : L.count (i:Int) = 1
    ·rw [if_neg (by rw [hc]; decide)]
     exact .inl ⟨_,rfl,rfl,hnext fun _ => hc⟩
    ·rw [if_pos (by simp; omega)]
     exact .inr ⟨_,rfl,.inr ⟨rfl,i,hi,hw,hc⟩⟩
 ·obtain rfl := e
  constructor
  ·unfold r15is_l4_pre
   dsimp only
   intro h; omega
  ·unfold r15is_l4_step
   dsimp only
   rw [if_neg (by omega)]
   exact ⟨_,rfl,.inl ⟨rfl,hb⟩⟩
theorem r15is_law {m : Msh} (hV : m.1.length < 4611686018427387904) {l : List Chr} (hs : ∀ c ∈ l,c.2.2.length ≤ 1000) (hll : l.length ≤ 1000) : r15is_pre (m,l) ∧ (r15is (m,l) = true ↔ tameB m = true ∧ IsP m l) := by
 obtain ⟨t1,t2⟩ := r15tame_law m hV
 cases hm : tameB m with
 | false =>
  unfold r15is_pre r15is
  dsimp only [letP,letV]
  rw [t2,hm,if_pos (by decide)]
  exact ⟨⟨t1,fun h => absurd rfl h⟩,⟨fun h => (by cases h),fun h => (by cases h.1)⟩⟩
 | true =>
  have hn := (mesh_len (tame_mesh hm)).2.2.2
  have ho := r15is_out hV hm hs hll
  have ha := r15is_all hV hm l (l.flatMap (·.2.2))
  unfold r15is_pre r15is
  dsimp only [letP,letV]
  rw [t2,hm,if_neg (by decide)]
  rcases ho.2 with ⟨h1,h2⟩ | ⟨h1,h2⟩
  ·rw [h2]
   refine ⟨⟨t1,fun _ => ⟨⟨by omega,by omega⟩,ho.1,ha.1⟩⟩,?_⟩
   dsimp only [Sum.elim]
   rcases ha.2 with ⟨h3,h4⟩ | ⟨h3,k,h4,h5,h6⟩
   ·rw [h3]
    exact ⟨fun _ => ⟨rfl,h1,h4⟩,fun _ => rfl⟩
   ·rw [h3]
    exact ⟨fun h => (by cases h),fun h => absurd (h.2.2 k h4 h5) h6⟩
  ·rw [h2]
   exact ⟨⟨t1,fun _ => ⟨⟨by omega,by omega⟩,ho.1,trivial⟩⟩,⟨fun h => (by cases h),fun h => absurd h.2.1 h1⟩⟩
end Go.Proofs.YtkbmjhabfjgoiaaGreat
