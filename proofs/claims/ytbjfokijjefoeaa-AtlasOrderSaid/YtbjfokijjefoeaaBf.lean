/- Plain laws: the document's rows of layer 18. -/
import Derived.Test.YtbjfokijjefoeaaBe
namespace Go.Proofs.Ytbjfokijjefoeaa
open Go Go.Ev Go.Proofs
set_option linter.unusedVariables false
set_option linter.unusedSimpArgs false
theorem r1same_law (a b : List Int) (hl : a.length < 4611686018427387904) : r1same_pre (a,b) ∧ (r1same (a,b) = true ↔ a = b) := by
 unfold r1same_pre r1same
 dsimp only [letP,letV]
 by_cases h : a.length = b.length
 ·have hn : ¬ ((((a.length:Nat):Int) != ((b.length:Nat):Int)) = true) := by simp [h]
  obtain ⟨h1,h2⟩ := loop_inv (step := r1same_l0_step (a,b)) (pre := r1same_l0_pre (a,b)) (fun s => ∃ i : Nat,s = (i:Int) ∧ i ≤ a.length ∧ a.take i = b.take i) (fun s => a.length - s.toNat)
   (fun r => (r = .inl () ∧ a ≠ b) ∨ (r = .inr () ∧ a = b)) (fun s ⟨i,e,hi,hf⟩ => by
    subst e
    unfold r1same_l0_step r1same_l0_pre
    dsimp only
    simp only [Int.toNat_natCast]
    refine ⟨fun q => ⟨by omega,by omega,by omega,by omega,by omega,by omega⟩,fun s' q => ?_,fun r q => ?_⟩
    ·split at q
     ·rename_i hlt
      have hlt : i < a.length := by omega
      split at q
      ·cases q
      ·rename_i hne
       cases q
       refine ⟨⟨i + 1,cnt hlt (by omega),hlt,?_⟩,?_⟩
       ·rw [List.take_succ_eq_append_getElem hlt,List.take_succ_eq_append_getElem (show i < b.length by omega),hf]
        congr 2
        simpa [List.getD_eq_getElem?_getD,List.getElem?_eq_getElem hlt,List.getElem?_eq_getElem (show i < b.length by omega)] using hne
       ·rw [cnt hlt (by omega)]
        simp only [Int.toNat_natCast]; omega
     ·cases q
    ·split at q
     ·split at q
      ·rename_i hne
       cases q
       refine .inl ⟨rfl,fun e => ?_⟩
       rw [e] at hne; simp at hne
      ·cases q
     ·cases q
      have : i = a.length := by omega
      subst this
      rw [List.take_length,h,List.take_length] at hf
      exact .inr ⟨rfl,hf⟩) 0 ⟨0,rfl,Nat.zero_le _,rfl⟩
  refine ⟨fun _ => h1,?_⟩
  rw [if_neg hn]
  rcases h2 with ⟨e,q⟩ | ⟨e,q⟩
  ·rw [e]; exact ⟨fun z => (by cases z),fun z => absurd z q⟩
  ·rw [e]; exact ⟨fun _ => q,fun _ => rfl⟩
 ·have hn : (((a.length:Nat):Int) != ((b.length:Nat):Int)) = true := by simp; omega
  refine ⟨fun q => absurd hn q,?_⟩
  rw [if_pos hn]
  exact ⟨fun q => (by cases q),fun q => absurd (by rw [q]) h⟩

theorem box_of {l : List T2} {lo hi : P2} (hl : l.length < 4611686018427387904) (h0 : l ≠ []) (hs : ∀ p ∈ pts l,Sm p) (hB : IsBox (pts l) lo hi) : fbox l = (lo,(hi,0)) := by
 rcases (fbox_law l hl).2 with ⟨h,_⟩ | ⟨⟨p,hp,hn⟩,_⟩ | ⟨_,_,lo',hi',hB',e⟩
 ·exact absurd h h0
 ·exact absurd (hs p hp) hn
 ·obtain ⟨rfl,rfl⟩ := hB.uniq hB'; exact e
theorem one_free (t : T2) : fapart [t] = true := (fapart_law [t] (by simp)).2.2 fun i k h1 h2 => by simp at h1; omega
abbrev t1 : T2 := ((0,0),((31,0),(0,15)))
abbrev t2 : T2 := ((0,0),((47,0),(0,47)))
abbrev d1 : Ptc := ([4],([t1],(2,1)))
abbrev d2 : Ptc := ([2],([t2],(3,3)))
theorem d1_eq : patchL (4,(2,1)) = d1 := by kernel_rfl
theorem d2_eq : patchL (2,(3,3)) = d2 := by kernel_rfl
theorem t1_box : fbox [t1] = (z2,((31,15),0)) :=
 box_of (by simp) (by simp) (by decide) ⟨by decide,by decide,⟨(0,0),by decide,rfl⟩,⟨(0,0),by decide,rfl⟩,⟨(31,0),by decide,rfl⟩,⟨(0,15),by decide,rfl⟩⟩
theorem t2_box : fbox [t2] = (z2,((47,47),0)) :=
 box_of (by simp) (by simp) (by decide) ⟨by decide,by decide,⟨(0,0),by decide,rfl⟩,⟨(0,0),by decide,rfl⟩,⟨(47,0),by decide,rfl⟩,⟨(0,47),by decide,rfl⟩⟩
theorem d1_patch : IsPatch d1 := by
 refine ⟨by simp,by simp,by decide,?_,?_,?_,?_,one_free t1⟩ <;> dsimp only <;> rw [t1_box] <;> first | rfl | decide
theorem d2_patch : IsPatch d2 := by
 refine ⟨by simp,by simp,by decide,?_,?_,?_,?_,one_free t2⟩ <;> dsimp only <;> rw [t2_box] <;> first | rfl | decide
abbrev l0 : Pts := [d1,d2]
theorem l0_right : Rgt l0 := ⟨fun p hp => by
 simp only [List.mem_cons,List.not_mem_nil,or_false] at hp
 rcases hp with rfl | rfl
 ·exact d1_patch
 ·exact d2_patch,by decide⟩
theorem l0_order : Ord l0 = [1,0] := by
 have hlen := ord_len l0
 have hmem := ord_mem l0
 have hnd := ord_nodup l0
 have hs := ord_sorted l0
 generalize Ord l0 = o at hlen hmem hnd hs
 match o,hlen with
 | [a,b],_ =>
  have h0 := (hmem a).1 (by simp)
  have h1 := (hmem b).1 (by simp)
  simp only [List.length_cons,List.length_nil] at h0 h1
  have hne : a ≠ b := by simpa using hnd
  have hcase : (a = 0 ∧ b = 1) ∨ (a = 1 ∧ b = 0) := by omega
  rcases hcase with ⟨rfl,rfl⟩ | ⟨rfl,rfl⟩
  ·have hs : ltM l0 1 0 = false := by simpa using hs
   rw [ltM_f] at hs
   exact absurd (.inl (by decide)) hs
  ·rfl
theorem l0_szs : szs l0 1 = [(5,5),(4,3)] := by
 unfold szs
 rw [l0_order]; rfl
theorem hi_of {s : List Int} {w x : Nat} {c : Int} (hs : Sky s) (hw : 0 < w) (h : x + w ≤ s.length) (hc : IsMax (List.take w (List.drop x s)) c) : hi s w x = c := (hi_law hs hw h).2.uniq hc
theorem fnd_flat {w : Nat} {h : Int} {s : List Int} (hs : SkyH w h s) (hw : w ≤ 256) (hh : h ≤ 256) {p : Int × Int} (hp : In1 p.1 ∧ In1 p.2) {c : Int} (h0 : p.1 ≤ w) (hc : hi s p.1.toNat 0 = c) (hch : c + p.2 ≤ h) (hx : ∀ x : Nat,(x:Int) + p.1 ≤ w → c ≤ hi s p.1.toNat x) : fnd s p h = (0,(c,true)) := by
 obtain ⟨_,g2,g3⟩ := fnd_law hs hw hh hp
 cases hf : (fnd s p h).2.2 with
 | false =>
  have := (g3 hf).2.2 0 (by omega)
  omega
 | true =>
  have hF := g2 hf
  have a0 := hF.a0
  have l1 := hF.least 0 (by omega) (by omega)
  have l2 := hx (fnd s p h).1.toNat (by have := hF.aw; omega)
  have l3 := hF.eq
  have e1 : (fnd s p h).2.1 = c := by omega
  have e2 : (fnd s p h).1 = 0 := by
   rcases Nat.eq_zero_or_pos (fnd s p h).1.toNat with z | z
   ·omega
   ·have := l1.2 z; omega
  exact Prod.ext e2 (Prod.ext e1 hf)
instance (l : List Int) (m:Int) : Decidable (IsMax l m) := by unfold IsMax; infer_instance
instance (s : List Int) : Decidable (Sky s) := by unfold Sky; infer_instance
abbrev s1 : List Int := [5,5,5,5,5,0,0,0]
theorem l0_fnd1 : fnd (List.replicate 8 0) (5,5) 8 = (0,(0,true)) := by
 have hS : Sky (List.replicate 8 0) := by decide
 refine fnd_flat (w := 8) ⟨rfl,by decide⟩ (by decide) (by decide) (by unfold In1; decide) (by decide) (hi_of hS (by decide) (by decide) (by decide)) (by decide) fun x hx => ?_
 exact (hi_in hS (by decide) (by simp; omega)).1
theorem l0_fnd2 : fnd s1 (4,3) 8 = (0,(5,true)) := by
 have hS : Sky s1 := by decide
 refine fnd_flat (w := 8) ⟨rfl,by decide⟩ (by decide) (by decide) (by unfold In1; decide) (by decide) (hi_of hS (by decide) (by decide) (by decide)) (by decide) fun x hx => ?_
 have hx5 : x < 5 := by have : (x:Int) + 4 ≤ 8 := hx; omega
 have hall : ∀ x,x < 5 → hi s1 4 x = 5 := by
  intro x hx
  have hm : ∀ x,x < 5 → IsMax (List.take 4 (List.drop x s1)) 5 := by decide
  exact hi_of hS (by decide) (by simp; omega) (hm x hx)
 rw [show ((4,3) : Int × Int).1.toNat = 4 from rfl,hall x hx5]
 decide
theorem l0_pack : packL 8 (List.replicate 8 0) [(5,5),(4,3)] = some [(0,(0,(5,5))),(0,(5,(4,3)))] := by
 rw [packL,l0_fnd1,if_pos rfl,packL]
 have e : rise (List.replicate 8 0) ((0:Int),((0:Int),true)).1.toNat ((5,5) : Int × Int).1.toNat (((0:Int),((0:Int),true)).2.1 + ((5,5) : Int × Int).2) = s1 := by kernel_rfl
 rw [e,l0_fnd2,if_pos rfl,packL]
theorem l0_full : packL 8 (List.replicate 4 0) [(5,5),(4,3)] = none := by
 rw [packL]
 obtain ⟨_,g2,g3⟩ := fnd_law (w := 4) (h := 8) (s := List.replicate 4 0) (p := (5,5)) ⟨rfl,by decide⟩ (by decide) (by decide) (by unfold In1; decide)
 cases hf : (fnd (List.replicate 4 0) (5,5) 8).2.2 with
 | false => rw [if_neg (by decide)]
 | true =>
  have hF := g2 hf
  have a0 := hF.a0
  have aw : _ + (5:Int) ≤ ((4:Nat):Int) := hF.aw
  omega
abbrev r0 : List Rct := [(0,(5,(4,3))),(0,(0,(5,5)))]
abbrev a0 : Atl := (8,(8,(1,(l0,r0))))
theorem l0_build : buildM_pre (8,(8,(1,l0))) ∧ buildM (8,(8,(1,l0))) = (a0,0) := by
 obtain ⟨h1,h2⟩ := build_law 8 8 1 l0 (by decide)
 refine ⟨h1,?_⟩
 rcases h2 with ⟨h,_⟩ | ⟨_,_,h,_⟩ | ⟨_,_,_,q,R,hq,hP,e⟩
 ·exact absurd ⟨by unfold Num In1; decide,l0_right⟩ h
 ·rw [l0_szs] at h
  have := h (by unfold Fits; decide)
  rw [show List.replicate (8:Int).toNat (0:Int) = List.replicate 8 0 from rfl,l0_pack] at this
  cases this
 ·rw [l0_szs,show List.replicate (8:Int).toNat (0:Int) = List.replicate 8 0 from rfl,l0_pack] at hq
  cases hq
  rw [e]
  obtain ⟨p1,p2⟩ := hP
  have q0 := p2 0 (by decide)
  have q1 := p2 1 (by decide)
  rw [l0_order] at q0 q1
  match R,p1 with
  | [x,y],_ =>
   have e0 : y = (0,(0,(5,5))) := q0
   have e1 : x = (0,(5,(4,3))) := q1
   rw [e0,e1]
theorem l0_build4 : buildM_pre (4,(8,(1,l0))) ∧ (buildM (4,(8,(1,l0)))).2 = 9 := by
 obtain ⟨h1,h2⟩ := build_law 4 8 1 l0 (by decide)
 refine ⟨h1,?_⟩
 rcases h2 with ⟨h,_⟩ | ⟨_,_,_,e⟩ | ⟨_,_,_,q,R,hq,hP,e⟩
 ·exact absurd ⟨by unfold Num In1; decide,l0_right⟩ h
 ·rw [e]
 ·rw [l0_szs,show List.replicate (4:Int).toNat (0:Int) = List.replicate 4 0 from rfl,l0_full] at hq
  cases hq
theorem l0_build0 : buildM_pre (8,(8,(0,l0))) ∧ (buildM (8,(8,(0,l0)))).2 = 1 := by
 obtain ⟨h1,h2⟩ := build_law 8 8 0 l0 (by decide)
 refine ⟨h1,?_⟩
 rcases h2 with ⟨_,e⟩ | ⟨h,_⟩ | ⟨h,_⟩
 ·rw [e]
 ·exact absurd h (by unfold Num In1; decide)
 ·exact absurd h (by unfold Num In1; decide)
theorem a0_is : IsAtl a0 := by
 refine ⟨by unfold Num In1; decide,rfl,l0_right,by decide,fun i hi => ?_⟩
 have : i = 0 ∨ i = 1 := by have : i < 2 := hi; omega
 rcases this with rfl | rfl
 ·exact ⟨by unfold Inb; decide,fun k hk => absurd hk (Nat.not_lt_zero _)⟩
 ·refine ⟨by unfold Inb; decide,fun k hk => ?_⟩
  have : k = 0 := by omega
  subst this
  unfold ApR; decide
theorem a0_isM : isM_pre a0 ∧ isM a0 = true := ⟨(is_law a0 (by decide) (by decide)).1,(is_law a0 (by decide) (by decide)).2.2 a0_is⟩
abbrev T0 : List T2 := [((16,96),((47,96),(16,111))),((16,16),((63,16),(16,63)))]
theorem a0_T : allT l0 r0 1 2 = T0 := by kernel_rfl
theorem a0_all : allM_pre a0 ∧ allM a0 = (T0,([0,1],0)) := by
 obtain ⟨h1,h2⟩ := all_law a0 (by decide) (by decide)
 refine ⟨h1,?_⟩
 rcases h2 with ⟨h,_⟩ | ⟨_,e⟩
 ·exact absurd a0_is h
 ·rw [e]
  show (allT l0 r0 1 2,(allO l0 2,(0:Int))) = _
  rw [a0_T]; rfl
theorem a0_find : findM_pre (a0,4) ∧ findM (a0,4) = (((16,96),((47,96),(16,111))),true) := by
 obtain ⟨h1,h2⟩ := find_law a0 4 (by decide) (by decide)
 refine ⟨h1,?_⟩
 rcases h2 with ⟨h,_⟩ | ⟨_,⟨k,k1,k2,e⟩ | ⟨k1,_⟩⟩
 ·exact absurd a0_is h
 ·rw [e]
  show ((allT l0 r0 1 2).getD k zT,true) = _
  rw [a0_T]
  have k1 : k < 2 := k1
  have : k = 0 ∨ k = 1 := by omega
  rcases this with rfl | rfl
  ·rfl
  ·exact absurd k2 (by decide)
 ·exact absurd (by decide) k1
end Go.Proofs.Ytbjfokijjefoeaa
