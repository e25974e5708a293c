/- Plain laws: turned triangles, patches, charts that are laid. -/
import Derived.Test.YtpbbnoggkbfkoaaQd
import Derived.Test.YtpbbnoggkbfkoaaFg
import Derived.Test.YtpbbnoggkbfkoaaPg
noncomputable section
set_option linter.unusedSectionVars false
set_option linter.unusedVariables false
set_option linter.unusedSimpArgs false
namespace Go.Proofs.Ytpbbnoggkbfkoaa
open Go Go.Ev Go.Proofs
theorem cloneI_tm (l : List Int) (hl : l.length < 1099511627776) : cloneI_pre l := fun b hb => by
 cases b with
 | false => exact ⟨rfl,fun _ => by omega⟩
 | true =>
  cases l with
  | nil => exact ⟨rfl,fun h => absurd rfl h⟩
  | cons a r => exact absurd (hb (by simp)) (by decide)
theorem cloneT_tm (l : List T2) (hl : l.length < 1099511627776) : cloneT_pre l := fun b hb => by
 cases b with
 | false => exact ⟨rfl,fun _ => by omega⟩
 | true =>
  cases l with
  | nil => exact ⟨rfl,fun h => absurd rfl h⟩
  | cons a r => exact absurd (hb (by simp)) (by decide)
def tmap (f : P2 → P2) (t : T2) : T2 := (f t.1,(f t.2.1,f t.2.2))
def half (f : P2 → P2) (l : List T2) (i:Nat) : List T2 := (l.take i).map (tmap f) ++ l.drop i
theorem half_len (f : P2 → P2) (l : List T2) (i:Nat) (hi : i ≤ l.length) : (half f l i).length = l.length := by
 unfold half; simp; omega
theorem half_get (f : P2 → P2) (l : List T2) (i:Nat) (hi : i < l.length) : (half f l i).getD i zT = l.getD i zT := by
 unfold half
 rw [List.getD_eq_getElem?_getD,List.getElem?_append_right (by simp; omega)]
 simp [Nat.min_eq_left (Nat.le_of_lt hi)]
theorem half_set (f : P2 → P2) (l : List T2) (i:Nat) (hi : i < l.length) (v : T2) (hv : v = tmap f (l.getD i zT)) : (half f l i).set i v = half f l (i + 1) := by
 subst hv
 unfold half
 have h1 : ((l.take i).map (tmap f)).length = i := by simp; omega
 rw [List.set_append_right _ _ (by omega),h1,Nat.sub_self,List.drop_eq_getElem_cons hi,List.set_cons_zero,List.take_succ_eq_append_getElem hi,List.map_append,List.append_assoc,List.getD_eq_getElem?_getD,List.getElem?_eq_getElem hi]
 rfl
theorem getD_set_self {α : Type} (l : List α) (i:Nat) (v d : α) (hi : i < l.length) : (l.set i v).getD i d = v := by
 rw [List.getD_eq_getElem?_getD,List.getElem?_set_self hi]; rfl
theorem turnedL_law (l : List T2) (lo : P2) (d:Int) (hl : l.length < 1099511627776) : turnedL_pre (l,(lo,d)) ∧ turnedL (l,(lo,d)) = l.map (tmap fun p => layc (p,(lo,d))) := by
 obtain ⟨h1,h2⟩ := loop_inv (step := turnedL_l0_step (l,(lo,d))) (pre := turnedL_l0_pre (l,(lo,d)))
  (fun s => ∃ i : Nat,s = (half (fun p => layc (p,(lo,d))) l i,((l.length:Int),(i:Int))) ∧ i ≤ l.length) (fun s => l.length - s.2.2.toNat) (fun r => r = l.map (tmap fun p => layc (p,(lo,d)))) (fun s ⟨i,e,hi⟩ => by
   subst e
   unfold turnedL_l0_step turnedL_l0_pre
   dsimp only [letV,letP]
   simp only [Int.toNat_natCast,cond_true,cond_false,List.length_set]
   rw [half_len _ _ _ hi]
   refine ⟨fun h => ?_,fun s' h => ?_,fun r h => ?_⟩
   ·have hi : i < l.length := by omega
    refine ⟨⟨by omega,by omega⟩,by omega,by omega,⟨by omega,by omega⟩,by omega,by omega,by omega,⟨by omega,by omega⟩,by omega,by omega,by omega,?_⟩
    omega
   ·split at h
    ·rename_i hlt
     have hlt : i < l.length := by omega
     have hH := half_len (fun p => layc (p,(lo,d))) l i hi
     cases h
     refine ⟨⟨i + 1,?_,hlt⟩,?_⟩
     ·rw [cnt hlt (by omega)]
      congr 1
      rw [List.set_set,List.set_set,half_set _ _ _ hlt]
      simp only [getD_set_self _ _ _ _ (show i < (half (fun p => layc (p,(lo,d))) l i).length by omega),List.set_set,half_get _ _ _ hlt]
      rfl
     ·rw [cnt hlt (by omega)]
      simp only [Int.toNat_natCast]; omega
    ·cases h
   ·split at h
    ·cases h
    ·cases h
     have : i = l.length := by omega
     subst this
     unfold half
     rw [List.take_length,List.drop_length,List.append_nil]) (l,((l.length:Int),(0:Int))) ⟨0,by unfold half; simp,Nat.zero_le _⟩
 exact ⟨⟨cloneT_tm l hl,h1⟩,h2⟩
theorem turnedM_law (l : List T2) (by' : P2) (hl : l.length < 1099511627776) : turnedM_pre (l,by') ∧ turnedM (l,by') = l.map (tmap fun p => movec (p,by')) := by
 obtain ⟨h1,h2⟩ := loop_inv (step := turnedM_l0_step (l,by')) (pre := turnedM_l0_pre (l,by'))
  (fun s => ∃ i : Nat,s = (half (fun p => movec (p,by')) l i,((l.length:Int),(i:Int))) ∧ i ≤ l.length) (fun s => l.length - s.2.2.toNat) (fun r => r = l.map (tmap fun p => movec (p,by'))) (fun s ⟨i,e,hi⟩ => by
   subst e
   unfold turnedM_l0_step turnedM_l0_pre
   dsimp only [letV,letP]
   simp only [Int.toNat_natCast,cond_true,cond_false,List.length_set]
   rw [half_len _ _ _ hi]
   refine ⟨fun h => ?_,fun s' h => ?_,fun r h => ?_⟩
   ·have hi : i < l.length := by omega
    refine ⟨⟨by omega,by omega⟩,by omega,by omega,⟨by omega,by omega⟩,by omega,by omega,by omega,⟨by omega,by omega⟩,by omega,by omega,by omega,?_⟩
    omega
   ·split at h
    ·rename_i hlt
     have hlt : i < l.length := by omega
     have hH := half_len (fun p => movec (p,by')) l i hi
     cases h
     refine ⟨⟨i + 1,?_,hlt⟩,?_⟩
     ·rw [cnt hlt (by omega)]
      congr 1
      rw [List.set_set,List.set_set,half_set _ _ _ hlt]
      simp only [getD_set_self _ _ _ _ (show i < (half (fun p => movec (p,by')) l i).length by omega),List.set_set,half_get _ _ _ hlt]
      rfl
     ·rw [cnt hlt (by omega)]
      simp only [Int.toNat_natCast]; omega
    ·cases h
   ·split at h
    ·cases h
    ·cases h
     have : i = l.length := by omega
     subst this
     unfold half
     rw [List.take_length,List.drop_length,List.append_nil]) (l,((l.length:Int),(0:Int))) ⟨0,by unfold half; simp,Nat.zero_le _⟩
 exact ⟨⟨cloneT_tm l hl,h1⟩,h2⟩
def RightB (t : T2) : Bool := mright (t.1,(t.2.1,t.2.2))
theorem rightB_iff (t : T2) : RightB t = true ↔ Right t.1 t.2.1 t.2.2 := by
 unfold RightB; rw [mright_law,decide_eq_true_iff]
theorem containsT_law (l : List T2) (hl : l.length < 4611686018427387904) (b : Bool) : containsT_pre (l,b) ∧ containsT (l,b) = !decide (∀ t ∈ l,Right t.1 t.2.1 t.2.2) := by
 have hh := index_loop l hl (fun t => !RightB t) (indexT_l0_step (l,false)) (indexT_l0_pre (l,false)) (fun i hi => by
   unfold indexT_l0_pre
   intro h
   simp only [Int.toNat_natCast]; dsimp only at h ⊢
   exact ⟨⟨by omega,by omega⟩,by omega,by omega,(sarea_law _ _ _).1⟩) (fun i x hx => by
   have hlt := lt_of_get hx
   unfold indexT_l0_step odd
   dsimp only [letV]
   rw [if_pos (by omega),Int.toNat_natCast,getD_of hx]
   rfl) (by
   unfold indexT_l0_step
   dsimp only
   rw [if_neg (by omega)])
 refine ⟨hh.1,?_⟩
 unfold containsT indexT
 dsimp only [letV]
 rw [hh.2,find_any]
 rw [Bool.eq_iff_iff,List.any_eq_true,Bool.not_eq_true',decide_eq_false_iff_not]
 constructor
 ·rintro ⟨x,h1,h2⟩ h3
  rw [Bool.not_eq_true'] at h2
  rw [(rightB_iff x).2 (h3 x h1)] at h2; cases h2
 ·intro h
  refine Classical.byContradiction fun h2 => h fun p hp => Classical.byContradiction fun h3 => h2 ⟨p,hp,?_⟩
  rw [Bool.not_eq_true',Bool.eq_false_iff]
  exact fun q => h3 ((rightB_iff p).1 q)
abbrev Ptc : Type := List Int × (List T2 × (Int × Int))
def Sz (n:Int) : Int := if n < 0 then 0 else if n > 4096 then 0 else n / 16 + 1
theorem fsize_law (n:Int) : fsize n = (Sz n,if n < 0 then 5 else if n > 4096 then 5 else 0) := by
 unfold fsize Sz
 split
 ·rfl
 ·split
  ·rfl
  ·rw [Int.tdiv_eq_ediv_of_nonneg (by omega),w64_id (n := n / 16) (by omega) (by omega),w64_id (by omega) (by omega)]
theorem fsizes_law (p : P2) : fsizes p = (Sz p.1,Sz p.2) := by
 unfold fsizes
 dsimp only [letV]
 rw [fsize_law,fsize_law]
structure IsPatch (x : Ptc) : Prop where
 len : x.1.length ≤ 500
 same : x.2.1.length = x.1.length
 right : ∀ t ∈ x.2.1,Right t.1 t.2.1 t.2.2
 ok : (fbox x.2.1).2.2 = 0
 zero : (fbox x.2.1).1 = z2
 w : x.2.2.1 = Sz (fbox x.2.1).2.1.1
 h : x.2.2.2 = Sz (fbox x.2.1).2.1.2
 free : fapart x.2.1 = true
theorem fis_law (x : Ptc) : fis_pre x ∧ (fis x = true ↔ IsPatch x) := by
 obtain ⟨tr,uv,w,h⟩ := x
 unfold fis_pre fis
 dsimp only [letP,letV]
 by_cases h1 : ((tr.length:Nat):Int) > 500
 ·exact ⟨fun q => absurd h1 q,by rw [if_pos h1]; exact ⟨fun q => (by cases q),fun q => absurd q.len (by dsimp only; omega)⟩⟩
 rw [if_neg h1]
 by_cases h2 : (((uv.length:Nat):Int) != ((tr.length:Nat):Int)) = true
 ·refine ⟨fun _ q => absurd h2 q,?_⟩
  rw [if_pos h2]
  refine ⟨fun q => (by cases q),fun q => ?_⟩
  have := q.same
  dsimp only at this
  rw [this] at h2; simp at h2
 rw [if_neg h2]
 have hlen : uv.length = tr.length := by simp only [bne_iff_ne,ne_eq,Decidable.not_not] at h2; omega
 have hl : uv.length < 4611686018427387904 := by omega
 refine ⟨fun _ _ => ⟨(containsT_law uv hl _).1,fun _ => ⟨(fbox_law uv hl).1,fun _ _ _ _ => (fapart_law uv hl).1⟩⟩,?_⟩
 rw [(containsT_law uv hl _).2,fsizes_law]
 by_cases h3 : ∀ t ∈ uv,Right t.1 t.2.1 t.2.2
 ·rw [decide_eq_true h3,if_neg (by decide)]
  by_cases h4 : ((fbox uv).2.2 != 0) = true
  ·rw [if_pos h4]
   refine ⟨fun q => (by cases q),fun q => ?_⟩
   have := q.ok
   dsimp only at this
   rw [this] at h4; exact absurd h4 (by decide)
  ·rw [if_neg h4]
   have h4 : (fbox uv).2.2 = 0 := by simpa using h4
   have he : (((fbox uv).1.1 == 0) && (((fbox uv).1.2 == 0) && true)) = true ↔ (fbox uv).1 = z2 := by
    generalize (fbox uv).1 = p
    obtain ⟨a,b⟩ := p
    simp
   by_cases h5 : (fbox uv).1 = z2
   ·rw [he.2 h5,if_neg (by decide)]
    by_cases h6 : w = Sz (fbox uv).2.1.1
    ·rw [if_pos (by rw [h6]; simp)]
     by_cases h7 : h = Sz (fbox uv).2.1.2
     ·rw [if_pos (by rw [h7]; simp)]
      exact ⟨fun q => ⟨by dsimp only; omega,hlen,h3,h4,h5,h6,h7,q⟩,fun q => q.free⟩
     ·rw [if_neg (by simpa using h7)]
      exact ⟨fun q => (by cases q),fun q => absurd q.h h7⟩
    ·rw [if_neg (by simpa using h6)]
     exact ⟨fun q => (by cases q),fun q => absurd q.w h6⟩
   ·rw [if_pos (by
     rw [Bool.not_eq_true',Bool.eq_false_iff]
     exact fun q => h5 (he.1 q))]
    exact ⟨fun q => (by cases q),fun q => absurd q.zero h5⟩
 ·rw [decide_eq_false h3,if_pos (by decide)]
  exact ⟨fun q => (by cases q),fun q => absurd q.right h3⟩
theorem fmove_law (x : Ptc) (b : P2) : fmove_pre (x,b) ∧ ((¬ IsPatch x ∧ fmove (x,b) = ([],1)) ∨ (IsPatch x ∧ ¬ (0 ≤ b.1 ∧ b.1 ≤ 65536 ∧ 0 ≤ b.2 ∧ b.2 ≤ 65536) ∧ fmove (x,b) = ([],5)) ∨
  (IsPatch x ∧ (0 ≤ b.1 ∧ b.1 ≤ 65536 ∧ 0 ≤ b.2 ∧ b.2 ≤ 65536) ∧ fmove (x,b) = (x.2.1.map (tmap fun p => movec (p,b)),0))) := by
 unfold fmove_pre fmove
 dsimp only [letP,letV]
 by_cases h : IsPatch x
 ·have hf := (fis_law x).2.2 h
  have hl : x.2.1.length < 1099511627776 := by have := h.len; have := h.same; omega
  rw [hf,if_neg (by decide)]
  refine ⟨⟨(fis_law x).1,fun _ _ _ => (turnedM_law _ _ hl).1⟩,.inr ?_⟩
  have g1 := minI_le b.1 b.2
  have g2 := maxI_le b.1 b.2
  by_cases h1 : minI b.1 b.2 < 0
  ·rw [if_pos h1]; exact .inl ⟨h,by omega,rfl⟩
  ·rw [if_neg h1]
   by_cases h2 : maxI b.1 b.2 > 65536
   ·rw [if_pos h2]; exact .inl ⟨h,by omega,rfl⟩
   ·rw [if_neg h2,(turnedM_law _ _ hl).2]; exact .inr ⟨h,by omega,rfl⟩
 ·have hf : fis x = false := by rw [Bool.eq_false_iff]; exact fun q => h ((fis_law x).2.1 q)
  rw [hf]
  exact ⟨⟨(fis_law x).1,fun q => absurd rfl q⟩,.inl ⟨h,rfl⟩⟩
def Raw (m : Msh) (c : Chr) : List T2 := c.2.2.map fun j => (shadow (m,(j,c.1))).1
def Fits (m : Msh) (c : Chr) (j:Int) : Prop := facing (m,j) = (c.1,(c.2.1,true)) ∧ (shadow (m,(j,c.1))).2 = 0
theorem shadow_code (m : Msh) (j ax:Int) : (shadow (m,(j,ax))).2 = 0 ∨ (shadow (m,(j,ax))).2 = 1 := by
 rw [(shadow_law m j ax).2]
 split
 ·exact .inl rfl
 ·exact .inr rfl
def LayOut (m : Msh) (c : Chr) (r : Int ⊕ List T2) : Prop := (r = .inl 1 ∧ ∃ j ∈ c.2.2,¬ Fits m c j) ∨ (r = .inr (Raw m c) ∧ ∀ j ∈ c.2.2,Fits m c j)
theorem flay_loop (m : Msh) (c : Chr) (d:Int) (hl : c.2.2.length < 1099511627776) : Term (flay_l0_step (m,(c,d))) (flay_l0_pre (m,(c,d))) ([],0) ∧ LayOut m c (run (flay_l0_step (m,(c,d))) ([],0)) := by
 refine loop_inv (step := flay_l0_step (m,(c,d))) (pre := flay_l0_pre (m,(c,d))) (fun s => ∃ i : Nat,s = ((c.2.2.take i).map (fun j => (shadow (m,(j,c.1))).1),(i:Int)) ∧ i ≤ c.2.2.length ∧ ∀ j ∈ c.2.2.take i,Fits m c j)
  (fun s => c.2.2.length - s.2.toNat) (LayOut m c) (fun s hs => ?_) _ ⟨0,rfl,Nat.zero_le _,fun j hj => (by simp at hj)⟩
 obtain ⟨i,rfl,hi,hf⟩ := hs
 unfold flay_l0_step flay_l0_pre
 dsimp only [letV,letP]
 simp only [Int.toNat_natCast]
 refine ⟨fun h => ⟨⟨by omega,by omega⟩,by omega,by omega,(facing_law _ _).1,fun _ _ _ => ⟨(shadow_law _ _ _).1,fun _ => by simp; omega⟩⟩,fun s' h => ?_,fun r h => ?_⟩
 ·split at h
  ·rename_i hlt
   have hlt : i < c.2.2.length := by omega
   have hg : c.2.2[i]? = some (c.2.2.getD i 0) := by rw [List.getD_eq_getElem?_getD,List.getElem?_eq_getElem hlt]; rfl
   have hfa : (facing (m,c.2.2.getD i 0)) = ((facing (m,c.2.2.getD i 0)).1,((facing (m,c.2.2.getD i 0)).2.1,(facing (m,c.2.2.getD i 0)).2.2)) := rfl
   split at h
   ·cases h
   ·rename_i h1
    split at h
    ·cases h
    ·rename_i h2
     split at h
     ·cases h
     ·rename_i h3
      split at h
      ·cases h
      ·rename_i h4
       cases h
       have e1 : (facing (m,c.2.2.getD i 0)).1 = c.1 := by simpa using h2
       have e2 : (facing (m,c.2.2.getD i 0)).2.1 = c.2.1 := by simpa using h3
       have e3 : (facing (m,c.2.2.getD i 0)).2.2 = true := by simpa using h1
       rw [e1] at h4
       have e4 : (shadow (m,(c.2.2.getD i 0,c.1))).2 = 0 := by simpa using h4
       refine ⟨⟨i + 1,?_,hlt,fun j hj => ?_⟩,?_⟩
       ·rw [cnt hlt (by omega),e1,List.take_succ_eq_append_getElem hlt,List.map_append,List.getD_eq_getElem?_getD,List.getElem?_eq_getElem hlt]; rfl
       ·rw [List.take_succ_eq_append_getElem hlt] at hj
        rcases List.mem_append.1 hj with hj | hj
        ·exact hf j hj
        ·simp only [List.mem_singleton] at hj
         have : j = c.2.2.getD i 0 := by rw [hj,List.getD_eq_getElem?_getD,List.getElem?_eq_getElem hlt]; rfl
         subst this
         exact ⟨by rw [hfa,e1,e2,e3],e4⟩
       ·rw [cnt hlt (by omega)]
        simp only [Int.toNat_natCast]; omega
  ·cases h
 ·split at h
  ·rename_i hlt
   have hlt : i < c.2.2.length := by omega
   have hm : c.2.2.getD i 0 ∈ c.2.2 := by rw [List.getD_eq_getElem?_getD,List.getElem?_eq_getElem hlt]; exact List.getElem_mem _
   split at h
   ·rename_i h1
    cases h
    refine .inl ⟨rfl,_,hm,fun q => ?_⟩
    rw [q.1] at h1; exact absurd h1 (by simp)
   ·split at h
    ·rename_i h2
     cases h
     refine .inl ⟨rfl,_,hm,fun q => ?_⟩
     rw [q.1] at h2; simp at h2
    ·rename_i h2
     split at h
     ·rename_i h3
      cases h
      refine .inl ⟨rfl,_,hm,fun q => ?_⟩
      rw [q.1] at h3; simp at h3
     ·split at h
      ·rename_i h4
       cases h
       have e1 : (facing (m,c.2.2.getD i 0)).1 = c.1 := by simpa using h2
       rw [e1] at h4 ⊢
       have hc := shadow_code m (c.2.2.getD i 0) c.1
       have hne : (shadow (m,(c.2.2.getD i 0,c.1))).2 ≠ 0 := by simpa using h4
       refine .inl ⟨?_,_,hm,fun q => hne q.2⟩
       rw [hc.resolve_left hne]
      ·cases h
  ·rename_i hlt
   cases h
   have : i = c.2.2.length := by omega
   subst this
   rw [List.take_length] at hf
   refine .inr ⟨?_,hf⟩
   rw [List.take_length]; rfl
def Turn (m : Msh) (c : Chr) (d:Int) : List T2 := (Raw m c).map (tmap fun p => layc (p,((fbox (Raw m c)).1,d)))
def High (m : Msh) (c : Chr) (d:Int) : P2 := layc ((fbox (Raw m c)).2.1,((fbox (Raw m c)).1,d))
structure Laid (m : Msh) (c : Chr) (d:Int) : Prop where
 dens : 1 ≤ d ∧ d ≤ 64
 fits : ∀ j ∈ c.2.2,Fits m c j
 box : (fbox (Raw m c)).2.2 = 0
 high : (High m c d).1 ≤ 4096 ∧ (High m c d).2 ≤ 4096
 free : fapart (Turn m c d) = true
abbrev noP : Ptc := ([],([],(0,0)))
theorem flay_law (m : Msh) (c : Chr) (d:Int) (hl : c.2.2.length < 1099511627776) : flay_pre (m,(c,d)) ∧
  ((¬ Laid m c d ∧ ∃ e,e ≠ 0 ∧ flay (m,(c,d)) = (noP,e) ∧ ((¬ ∀ j ∈ c.2.2,Fits m c j) → e = 1) ∧ (e = 2 ∨ ¬ (1 ≤ d ∧ d ≤ 64) ∨ (∃ j ∈ c.2.2,¬ Fits m c j) ∨ (fbox (Raw m c)).2.2 ≠ 0 ∨ ((High m c d).1 ≤ 4096 ∧ (High m c d).2 ≤ 4096) ∧ fapart (Turn m c d) ≠ true)) ∨ (Laid m c d ∧ flay (m,(c,d)) = ((c.2.2,(Turn m c d,(Sz (High m c d).1,Sz (High m c d).2))),0))) := by
 obtain ⟨hT,hR⟩ := flay_loop m c d hl
 have hrl : (Raw m c).length = c.2.2.length := by unfold Raw; simp
 have hbx := fbox_law (Raw m c) (by omega)
 have htl := turnedL_law (Raw m c) (fbox (Raw m c)).1 d (by omega)
 have hap := fapart_law (Turn m c d) (by unfold Turn; simp; omega)
 unfold flay_pre flay
 dsimp only [letP,letV]
 by_cases h1 : d < 1
 ·exact ⟨fun q => absurd h1 q,by rw [if_pos h1]; exact .inl ⟨fun q => absurd q.dens (by omega),1,by decide,rfl,fun _ => rfl,.inr (.inl (by omega))⟩⟩
 rw [if_neg h1]
 by_cases h2 : d > 64
 ·exact ⟨fun _ q => absurd h2 q,by rw [if_pos h2]; exact .inl ⟨fun q => absurd q.dens (by omega),1,by decide,rfl,fun _ => rfl,.inr (.inl (by omega))⟩⟩
 rw [if_neg h2]
 rcases hR with ⟨e,j,hj,hn⟩ | ⟨e,hf⟩
 ·rw [e]
  exact ⟨fun _ _ => ⟨hT,trivial⟩,.inl ⟨fun q => hn (q.fits j hj),1,by decide,rfl,fun _ => rfl,.inr (.inr (.inl ⟨j,hj,hn⟩))⟩⟩
 ·rw [e]
  have eT : turnedL (Raw m c,((fbox (Raw m c)).1,d)) = Turn m c d := htl.2
  have eH : layc ((fbox (Raw m c)).2.1,((fbox (Raw m c)).1,d)) = High m c d := rfl
  refine ⟨fun _ _ => ⟨hT,⟨hbx.1,fun _ _ => ⟨htl.1,?_,fun _ => cloneI_tm _ hl⟩⟩⟩,?_⟩
  ·rw [eT]; exact hap.1
  ·dsimp only [Sum.elim_inr]
   rw [eT,eH,fsizes_law]
   by_cases h3 : ((fbox (Raw m c)).2.2 != 0) = true
   ·rw [if_pos h3]
    refine .inl ⟨fun q => ?_,1,by decide,rfl,fun _ => rfl,.inr (.inr (.inr (.inl (by simpa using h3))))⟩
    rw [q.box] at h3; exact absurd h3 (by decide)
   ·rw [if_neg h3]
    have g := maxI_le (High m c d).1 (High m c d).2
    by_cases h4 : maxI (High m c d).1 (High m c d).2 > 4096
    ·rw [if_pos h4]
     exact .inl ⟨fun q => absurd q.high (by omega),2,by decide,rfl,fun q => absurd hf q,.inl rfl⟩
    ·rw [if_neg h4]
     by_cases h5 : fapart (Turn m c d) = true
     ·rw [h5,if_neg (by decide)]
      exact .inr ⟨⟨by omega,hf,by simpa using h3,by omega,h5⟩,rfl⟩
     ·rw [if_pos (by simpa using h5)]
      exact .inl ⟨fun q => absurd q.free h5,1,by decide,rfl,fun _ => rfl,.inr (.inr (.inr (.inr ⟨by omega,h5⟩)))⟩
end Go.Proofs.Ytpbbnoggkbfkoaa
