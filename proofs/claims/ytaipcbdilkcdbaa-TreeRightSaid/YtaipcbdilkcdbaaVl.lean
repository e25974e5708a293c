/- Plain laws: limewashlaw21.TreeRight. -/
import Derived.Test.YtaipcbdilkcdbaaVi
noncomputable section
set_option linter.unusedSectionVars false
set_option linter.unusedVariables false
set_option linter.unusedSimpArgs false
namespace Go.Proofs.Ytaipcbdilkcdbaa
open Go Go.Ev Go.Proofs
def Cn (L : List T3) (S sn : List Int) : Prop := sn.length = L.length ∧ ∀ j : Nat,j < L.length → sn.getD j 0 = ((S.count (j:Int):Nat):Int)
theorem Cn.snoc {L : List T3} {S sn : List Int} (h : Cn L S sn) (hS : S.length ≤ 100000) {v : Int} (hv : 0 ≤ v ∧ v < (L.length:Int)) : Cn L (S ++ [v]) (sn.set v.toNat (w64 (sn.getD v.toNat 0 + 1))) := by
 obtain ⟨h1,h2⟩ := h
 refine ⟨by rw [List.length_set,h1],fun j hj => ?_⟩
 have hvl : v.toNat < L.length := by omega
 have c := h2 _ hvl
 have cl := List.count_le_length (a := ((v.toNat:Nat):Int)) (l := S)
 rw [set_get _ _ _ _ _ (by omega),List.count_append,List.count_singleton,c,w64_id (by omega) (by omega)]
 by_cases e : v.toNat = j
 ·subst e
  have e2 : ((v.toNat:Nat):Int) = v := by omega
  rw [if_pos rfl,e2,if_pos (beq_self_eq_true v)]; rfl
 ·have e2 : ¬ ((v == (j:Int)) = true) := fun q => by have := eq_of_beq q; omega
  rw [if_neg e,if_neg e2,h2 j hj]; rfl
section
variable {L : List T3} {pl : List Int} {G : List Brn} {N : List (List Int)} {U : List Int} (h : Facts L 0 (-1) pl G N U) (hi : InL L pl)
include h hi
theorem rt2_law (f l:Int) {k : Nat} (hk : k < G.length) (S sn : List Int) (hS : S.length + (G.getD k zB).2.2.2.length ≤ 100000) (hc : Cn L S sn) :
  TR (lawRight_l2_step L) (lawRight_l2_pre L) (G,(f,(l,(sn,((k:Int),0))))) fun r => ∃ sn',r = .inr (G,(f,(l,(sn',(k:Int))))) ∧ Cn L (S ++ (G.getD k zB).2.2.2) sn' := by
 have hmem : ∀ v ∈ (G.getD k zB).2.2.2,0 ≤ v ∧ v < (L.length:Int) := fun v hv => by
  rcases h.kind0 hk with ⟨_,_,e,_⟩ | ⟨r,_,_,_,_,e,_⟩
  ·rw [e] at hv; exact hi _ (h.sub k hk _ hv)
  ·rw [e] at hv; cases hv
 have qa : (0 ≤ (k:Int)) ∧ (k:Int) < (G.length:Int) := ⟨by omega,by omega⟩
 refine for_loop (G.getD k zB).2.2.2.length (fun i s => ∃ sn',s = (G,(f,(l,(sn',((k:Int),(i:Int)))))) ∧ Cn L (S ++ (G.getD k zB).2.2.2.take i) sn') _ (fun i s hq hJ => ?_) (fun s hJ => ?_) ⟨sn,rfl,by simpa using hc⟩
 ·obtain ⟨sn',rfl,hc'⟩ := hJ
  have hin := hmem _ (getD_in hq 0)
  have qb : (0 ≤ (i:Int)) ∧ (i:Int) < ((G.getD k zB).2.2.2.length:Int) := ⟨by omega,by omega⟩
  have m1 : ¬ (G.getD k zB).2.2.2.getD i 0 < 0 := by omega
  have m2 : ¬ (G.getD k zB).2.2.2.getD i 0 ≥ ((L.length:Nat):Int) := by omega
  have hsl := hc'.1
  have qs : 0 ≤ (G.getD k zB).2.2.2.getD i 0 ∧ (G.getD k zB).2.2.2.getD i 0 < ((sn'.length:Nat):Int) := by rw [hsl]; exact hin
  have qt : ((G.getD k zB).2.2.2.getD i 0).toNat < sn'.length := by omega
  refine ⟨?_,.inl ⟨_,?_,sn'.set ((G.getD k zB).2.2.2.getD i 0).toNat (w64 (sn'.getD ((G.getD k zB).2.2.2.getD i 0).toNat 0 + 1)),rfl,?_⟩⟩
  ·unfold lawRight_l2_pre
   dsimp only
   rw [Int.toNat_natCast,Int.toNat_natCast]
   exact ⟨qa,hk,hk,hk,fun _ => ⟨qa,hk,hk,hk,qb,hq,hq,fun _ _ => ⟨qs,qt,qt,qs,qt,qt⟩⟩⟩
  ·unfold lawRight_l2_step letV
   dsimp only
   rw [Int.toNat_natCast,Int.toNat_natCast,if_pos (show (i:Int) < ((G.getD k zB).2.2.2.length:Int) by omega),if_neg m1,if_neg m2,cntI hq (by omega)]
  ·have := hc'.snoc (by rw [List.length_append,List.length_take]; omega) hin
   rw [take_snoc hq 0,← List.append_assoc]; exact this
 ·obtain ⟨sn',rfl,hc'⟩ := hJ
  have nn : ¬ (((G.getD k zB).2.2.2.length:Nat):Int) < ((G.getD k zB).2.2.2.length:Int) := by omega
  refine ⟨?_,_,?_,sn',rfl,?_⟩
  ·unfold lawRight_l2_pre
   dsimp only
   rw [Int.toNat_natCast]
   exact ⟨qa,hk,hk,hk,fun q => absurd q nn⟩
  ·unfold lawRight_l2_step
   dsimp only
   rw [Int.toNat_natCast,if_neg nn]
  ·rw [List.take_length] at hc'; exact hc'
theorem rt0_law (hp : pl.length ≤ 1000) (hG : G.length ≤ 10000) :
  TR (lawRight_l0_step L) (lawRight_l0_pre L) (G,(0,(0,(List.replicate L.length 0,0)))) fun r => ∃ sn,r = .inr (G,(((G.countP (fun b => !leafy b):Nat):Int),(((G.countP leafy:Nat):Int),sn))) ∧ Cn L (G.flatMap fun b => b.2.2.2) sn := by
 refine for_loop G.length (fun i s => ∃ sn,s = (G,((((G.take i).countP (fun b => !leafy b):Nat):Int),((((G.take i).countP leafy:Nat):Int),(sn,(i:Int))))) ∧ Cn L ((G.take i).flatMap fun b => b.2.2.2) sn) _ (fun i s hk hJ => ?_) (fun s hJ => ?_) ⟨List.replicate L.length 0,rfl,List.length_replicate,fun j hj => ?_⟩
 ·obtain ⟨sn,rfl,hc⟩ := hJ
  have hsp : (G.flatMap fun b => b.2.2.2) = ((G.take i).flatMap fun b => b.2.2.2) ++ (G.getD i zB).2.2.2 ++ ((G.drop (i + 1)).flatMap fun b => b.2.2.2) := by
   have h1 := List.take_append_drop (i + 1) G
   rw [take_snoc hk zB] at h1
   have h2 := congrArg (fun l : List Brn => l.flatMap fun b => b.2.2.2) h1
   simp only [List.flatMap_append,List.flatMap_cons,List.flatMap_nil,List.append_nil] at h2
   exact h2.symm
  have hlen : ((G.take i).flatMap fun b => b.2.2.2).length + (G.getD i zB).2.2.2.length ≤ 100000 := by
   have e1 := congrArg List.length hsp
   rw [List.length_append,List.length_append,h.tris.length_eq] at e1
   omega
  have hfl : ((G.take (i + 1)).flatMap fun b => b.2.2.2) = ((G.take i).flatMap fun b => b.2.2.2) ++ (G.getD i zB).2.2.2 := by
   rw [take_snoc hk zB]
   simp only [List.flatMap_append,List.flatMap_cons,List.flatMap_nil,List.append_nil]
  have k1 := List.countP_le_length (p := leafy) (l := G.take i)
  have k2 := List.countP_le_length (p := fun b => !leafy b) (l := G.take i)
  rw [List.length_take] at k1 k2
  have c1 : (G.take (i + 1)).countP leafy = (G.take i).countP leafy + if leafy (G.getD i zB) = true then 1 else 0 := by
   rw [take_snoc hk zB,List.countP_append,List.countP_singleton]
  have c2 : (G.take (i + 1)).countP (fun b => !leafy b) = (G.take i).countP (fun b => !leafy b) + if (!leafy (G.getD i zB)) = true then 1 else 0 := by
   rw [take_snoc hk zB,List.countP_append,List.countP_singleton]
  have qa : (0 ≤ (i:Int)) ∧ (i:Int) < (G.length:Int) := ⟨by omega,by omega⟩
  rw [hfl,c1,c2]
  by_cases hb : ((G.getD i zB).2.1 == 0) = true
  ·have hleaf : leafy (G.getD i zB) = true := hb
   have h2 : ¬ (((G.getD i zB).2.2.2.length:Nat):Int) > 2 := by
    rcases h.kind0 hk with ⟨_,_,e,e2⟩ | ⟨r,e,_⟩
    ·rw [e]; omega
    ·have := eq_of_beq hb; omega
   obtain ⟨t1,sn',t2,t3⟩ := rt2_law h hi (((G.take i).countP (fun b => !leafy b):Nat):Int) ((((G.take i).countP leafy + 1:Nat)):Int) hk _ sn hlen hc
   have w1 : w64 ((((G.take i).countP leafy:Nat):Int) + 1) = (((G.take i).countP leafy + 1:Nat):Int) := by rw [w64_id (by omega) (by omega)]; omega
   rw [hleaf,if_pos rfl,if_neg (by decide)]
   refine ⟨?_,.inl ⟨_,?_,sn',rfl,t3⟩⟩
   ·unfold lawRight_l0_pre
    dsimp only
    rw [Int.toNat_natCast,w1]
    exact fun _ => ⟨qa,hk,hk,hk,fun _ => ⟨qa,hk,hk,hk,fun _ => t1⟩,fun q => absurd hb q⟩
   ·unfold lawRight_l0_step letV
    dsimp only
    rw [Int.toNat_natCast,if_pos (by omega),if_pos hb,if_neg h2,w1,t2]
    dsimp only [Sum.elim]
    rw [cntI hk (by omega)]; rfl
  ·have hleaf : leafy (G.getD i zB) = false := by
    have : ¬ leafy (G.getD i zB) = true := hb
    simpa using this
   obtain ⟨t1,sn',t2,t3⟩ := rt2_law h hi ((((G.take i).countP (fun b => !leafy b) + 1:Nat)):Int) (((G.take i).countP leafy:Nat):Int) hk _ sn hlen hc
   have w1 : w64 ((((G.take i).countP (fun b => !leafy b):Nat):Int) + 1) = (((G.take i).countP (fun b => !leafy b) + 1:Nat):Int) := by rw [w64_id (by omega) (by omega)]; omega
   rw [hleaf,if_pos (show (!false) = true by decide),if_neg (show ¬ (false = true) by decide)]
   refine ⟨?_,.inl ⟨_,?_,sn',rfl,t3⟩⟩
   ·unfold lawRight_l0_pre
    dsimp only
    rw [Int.toNat_natCast,w1]
    exact fun _ => ⟨qa,hk,hk,hk,fun q => absurd q hb,fun _ => t1⟩
   ·unfold lawRight_l0_step letV
    dsimp only
    rw [Int.toNat_natCast,if_pos (by omega),if_neg hb,w1,t2]
    dsimp only [Sum.elim]
    rw [cntI hk (by omega)]; rfl
 ·obtain ⟨sn,rfl,hc⟩ := hJ
  simp only [List.take_length] at hc ⊢
  refine ⟨?_,_,?_,sn,rfl,hc⟩
  ·unfold lawRight_l0_pre
   dsimp only
   intro q; omega
  ·unfold lawRight_l0_step
   dsimp only
   rw [if_neg (by omega)]
 ·rw [List.getD_eq_getElem?_getD,List.getElem?_replicate,if_pos hj]; rfl
end
theorem rt4_law (L : List T3) (G : List Brn) (f l:Int) (sn : List Int) (hl : sn.length ≤ 1000) (h1 : ∀ j,j < sn.length → sn.getD j 0 = 1) :
  TR (lawRight_l4_step L) (lawRight_l4_pre L) (G,(f,(l,(sn,0)))) fun r => r = .inr (G,(f,l)) := by
 refine for_loop sn.length (fun j s => s = (G,(f,(l,(sn,(j:Int)))))) _ (fun j s hj hJ => ?_) (fun s hJ => ?_) rfl
 ·subst hJ
  refine ⟨?_,.inl ⟨_,?_,rfl⟩⟩
  ·unfold lawRight_l4_pre
   dsimp only
   rw [Int.toNat_natCast]
   exact fun _ => ⟨⟨by omega,by omega⟩,hj,hj⟩
  ·unfold lawRight_l4_step
   dsimp only
   rw [Int.toNat_natCast,if_pos (by omega),h1 j hj,if_neg (by decide),cntI hj (by omega)]
 ·subst hJ
  refine ⟨?_,_,?_,rfl⟩
  ·unfold lawRight_l4_pre
   dsimp only
   intro q; omega
  ·unfold lawRight_l4_step
   dsimp only
   rw [if_neg (by omega)]
theorem letVi {α β : Type} (v : α) (f : α → β) : letV v f = f v := rfl
theorem lawRight_law (L : List T3) : lawRight_pre L ∧ lawRight L = true := by
 obtain ⟨g1,g2⟩ := grown_law false
 by_cases n1 : ((L.length:Nat):Int) > 20
 ·unfold lawRight_pre lawRight
  rw [if_pos n1]; exact ⟨fun q => absurd n1 q,rfl⟩
 obtain ⟨s1,s2⟩ := buildT_law L (by omega)
 rcases s2 with ⟨_,e⟩ | ⟨hS,G,N,U,e,hG,ht⟩
 ·refine ⟨?_,?_⟩
  ·unfold lawRight_pre letP
   rw [e]
   exact fun _ => ⟨s1,fun _ => g1,fun q => absurd (by decide) q⟩
  ·unfold lawRight
   rw [if_neg n1,letVi,e,if_pos (by decide),letVi,g2]
   rfl
 ·have hf := ht.facts
  have hi : InL L (rng L.length) := fun i h => (rng_mem _ _).1 h
  have hl := rng_len L.length
  have hnd := rng_nodup L.length
  obtain ⟨c1,sn,c2,c3,c4⟩ := rt0_law hf hi (by omega) (by omega)
  have hone : ∀ j,j < sn.length → sn.getD j 0 = 1 := fun j hj => by
   rw [c4 j (by omega),hf.tris.count_eq,hnd.count,if_pos ((rng_mem _ _).2 ⟨by omega,by omega⟩)]; rfl
  have d4 := rt4_law L G ((G.countP (fun b => !leafy b):Nat):Int) ((G.countP leafy:Nat):Int) sn (by omega) hone
  obtain ⟨i1,i2⟩ := isT_law ht hi hS (by omega) (by omega) (by omega) hnd (fun j hj => (rng_mem _ _).2 ⟨by omega,by omega⟩)
  obtain ⟨p1,d,p2,p3⟩ := depth_law hf (by omega)
  obtain ⟨b1,b2⟩ := depth_bound hf p3 G.length 0 (by omega) hf.pos
  have b3 := b2 8 (by rw [hf.n0,hl]; have : 2 ^ (8 + 1) = 512 := rfl; omega)
  rw [← p2] at b1 b3
  have k1 := List.countP_le_length (p := fun b => !leafy b) (l := G)
  have w1 : (((G.countP leafy:Nat):Int) == w64 (((G.countP (fun b => !leafy b):Nat):Int) + 1)) = true := by
   rw [w64_id (by omega) (by omega),hf.many,beq_iff_eq]; rfl
  refine ⟨?_,?_⟩
  ·unfold lawRight_pre letP
   rw [e]
   dsimp only
   rw [c2]
   dsimp only [cS,Sum.elim]
   rw [d4.2]
   exact fun _ => ⟨s1,fun q => absurd q (by decide),fun _ => ⟨⟨by omega,by omega⟩,c1,d4.1,g1,fun _ _ => ⟨i1,fun _ => ⟨p1,fun _ => p1⟩⟩⟩⟩
  ·unfold lawRight
   rw [if_neg n1,letVi,e,if_neg (show ¬ (((0:Int) != 0) = true) by decide),letVi,c2,Sum.elim_inr,letVi,d4.2,Sum.elim_inr,letVi,g2,if_pos rfl,if_pos w1,letVi,i2,if_pos rfl,letVi,if_pos (by omega),letVi,decide_eq_true_eq]
   omega
end Go.Proofs.Ytaipcbdilkcdbaa
