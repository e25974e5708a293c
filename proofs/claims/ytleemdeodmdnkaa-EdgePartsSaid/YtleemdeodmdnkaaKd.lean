/- Plain laws: EdgeParts. -/
import Derived.Test.YtleemdeodmdnkaaKl
import Derived.Test.YtleemdeodmdnkaaEj
noncomputable section
set_option linter.unusedSectionVars false
set_option linter.unusedVariables false
set_option linter.unusedSimpArgs false
namespace Go.Proofs.Ytleemdeodmdnkaa
open Go Go.Ev Go.Proofs
def more (m : Msh) (t : T3) : Msh := ([] ++ m.1,([] ++ m.2.1,([] ++ m.2.2.1,([] ++ m.2.2.2) ++ [t])))
theorem more_len (m : Msh) (t : T3) : (more m t).2.2.2.length = m.2.2.2.length + 1 := by
 show (([] ++ m.2.2.2) ++ [t]).length = _
 rw [List.length_append,List.length_singleton]; rfl
theorem more_has {m : Msh} {t : T3} {i : Int} (h : Has m i) : Has (more m t) i := ⟨h.1,by rw [more_len]; have := h.2; omega⟩
theorem more_trg {m : Msh} {t : T3} {i : Int} (h : Has m i) : Trg (more m t) i = Trg m i := by
 have h1 := h.1
 have h2 := h.2
 unfold Trg
 show (([] ++ m.2.2.2) ++ [t]).getD _ _ = _
 rw [List.nil_append,List.getD_eq_getElem?_getD,List.getElem?_append_left (by omega),← List.getD_eq_getElem?_getD]
theorem more_adj {m : Msh} {t : T3} {i k : Int} (hi : Has m i) (h : Adj m i k) : Adj (more m t) i k := by
 obtain ⟨h1,h2,p,h3,h4⟩ := h
 exact ⟨h1,more_has h2,p,by rw [more_trg hi]; exact h3,by rw [more_trg h2]; exact h4⟩
theorem more_cn {m : Msh} {t : T3} {i k : Int} (h : Cn m i k) : Cn (more m t) i k := by
 induction h with
 | refl => exact .refl _
 | step _ h1 h2 ih => exact ih.step (more_has h1) (more_adj h1 h2)
theorem parts_low (m : Msh) (y : I3) (hn : m.2.2.2.length ≤ 500) {p : List Int} (hp : Parts m p) : TR (edgeParts_l0_step (m,y)) (edgeParts_l0_pre (m,y)) (p,0) (fun r => r = .inr p) := by
 have hpl := hp.len
 refine for_loop p.length (fun i s => s = (p,(i:Int))) _ (fun i s hi e => ?_) (fun s e => ?_) rfl
 ·subst e
  obtain ⟨v1,v2,v3,_⟩ := hp.val (i:Int) ⟨by omega,by omega⟩
  have v1 : 0 ≤ p.getD i 0 := v1
  have v2 : p.getD i 0 ≤ i := v2
  have v3 : p.getD (p.getD i 0).toNat 0 = p.getD i 0 := v3
  have b : (0:Int) ≤ (i:Int) ∧ (i:Int) < ((p.length:Nat):Int) := ⟨by omega,by omega⟩
  constructor
  ·unfold edgeParts_l0_pre
   dsimp only
   intro _
   rw [Int.toNat_natCast]
   exact ⟨b,hi,hi,fun _ => ⟨b,hi,hi,fun _ => ⟨b,hi,hi,⟨v1,by omega⟩,by omega,by omega,b,hi,hi⟩⟩⟩
  ·refine .inl ?_
   unfold edgeParts_l0_step
   dsimp only
   rw [Int.toNat_natCast,if_pos b.2,if_neg (by omega),if_neg (by omega),v3,if_neg (by simp),cnt (n := 500) (by omega) (by omega)]
   exact ⟨_,rfl,rfl⟩
 ·subst e
  constructor
  ·unfold edgeParts_l0_pre
   dsimp only
   intro h; omega
  ·unfold edgeParts_l0_step
   dsimp only
   rw [if_neg (by omega)]
   exact ⟨_,rfl,rfl⟩
theorem parts_join (m : Msh) (y : I3) (t : T3) (hn : m.2.2.2.length ≤ 500) {p q : List Int} (hp : Parts m p) (hq : Parts (more m t) q) : TR (edgeParts_l2_step (m,y)) (edgeParts_l2_pre (m,y)) (p,(q,0)) (fun r => r = .inr (p,q)) := by
 have hpl := hp.len
 have hql := hq.len
 rw [more_len] at hql
 have hj : ∀ i k : Int,Has m i → Has m k → gp p i = gp p k → gp q i = gp q k := fun i k hi hk e => by
  have h1 := hq.cn (more_cn (t := t) (hp.val i hi).2.2.2)
  have h2 := hq.cn (more_cn (t := t) (hp.val k hk).2.2.2)
  rw [← h1,← h2,e]
 have hin : ∀ i : Nat,i < p.length → TR (edgeParts_l4_step (m,y)) (edgeParts_l4_pre (m,y)) (p,(q,((i:Int),0))) (fun r => r = .inr (p,(q,(i:Int)))) := fun i hi => by
  refine for_loop p.length (fun k s => s = (p,(q,((i:Int),(k:Int))))) _ (fun k s hk e => ?_) (fun s e => ?_) rfl
  ·subst e
   have hjj : p.getD i 0 = p.getD k 0 → q.getD i 0 = q.getD k 0 := hj (i:Int) (k:Int) ⟨by omega,by omega⟩ ⟨by omega,by omega⟩
   constructor
   ·unfold edgeParts_l4_pre
    dsimp only
    intro _
    rw [Int.toNat_natCast,Int.toNat_natCast]
    exact ⟨⟨by omega,by omega⟩,hi,hi,⟨by omega,by omega⟩,hk,hk,fun _ => ⟨⟨by omega,by omega⟩,by omega,by omega,⟨by omega,by omega⟩,by omega,by omega⟩⟩
   ·refine .inl ?_
    unfold edgeParts_l4_step
    dsimp only
    rw [Int.toNat_natCast,Int.toNat_natCast,if_pos (by omega),cnt (n := 500) (by omega) (by omega)]
    by_cases h : p.getD i 0 = p.getD k 0
    ·rw [if_pos (by simpa using h),hjj h,if_neg (by simp)]
     exact ⟨_,rfl,rfl⟩
    ·rw [if_neg (by simpa using h)]
     exact ⟨_,rfl,rfl⟩
  ·subst e
   constructor
   ·unfold edgeParts_l4_pre
    dsimp only
    intro h; omega
   ·unfold edgeParts_l4_step
    dsimp only
    rw [if_neg (by omega)]
    exact ⟨_,rfl,rfl⟩
 refine for_loop p.length (fun i s => s = (p,(q,(i:Int)))) _ (fun i s hi e => ?_) (fun s e => ?_) rfl
 ·subst e
  have hi' := hin i hi
  constructor
  ·unfold edgeParts_l2_pre
   intro _
   exact hi'.1
  ·refine .inl ?_
   unfold edgeParts_l2_step
   rw [if_pos (by dsimp only; omega),letV_e]
   dsimp only
   rw [hi'.2,Sum.elim_inr]
   dsimp only
   rw [cnt (n := 500) (by omega) (by omega)]
   exact ⟨_,rfl,rfl⟩
 ·subst e
  constructor
  ·unfold edgeParts_l2_pre
   dsimp only
   intro h; omega
  ·unfold edgeParts_l2_step
   dsimp only
   rw [if_neg (by omega)]
   exact ⟨_,rfl,rfl⟩
theorem parts_law (x : Msh × I3) : edgeParts_pre x ∧ edgeParts x = true := by
 obtain ⟨m,y⟩ := x
 obtain ⟨e1,e2⟩ := edged_law
 cases hf : few14 m with
 | false =>
  constructor
  ·unfold edgeParts_pre
   exact letP_i fun h => by dsimp only at h; rw [hf] at h; exact absurd rfl h
  ·unfold edgeParts
   rw [letV_e]
   dsimp only
   rw [hf,if_pos (by decide)]
 | true =>
  obtain ⟨l1,l2,l3,l4⟩ := few14_law hf
  by_cases h15 : ((m.2.2.2.length:Nat):Int) > 15
  ·constructor
   ·unfold edgeParts_pre
    exact letP_i fun _ h => absurd h15 h
   ·unfold edgeParts
    rw [letV_e]
    dsimp only
    rw [hf,if_neg (by decide),if_pos h15]
  ·cases hm : meshB m with
   | false =>
    obtain ⟨p1,p2⟩ := eparts_bad hm
    constructor
    ·unfold edgeParts_pre
     exact letP_i fun _ _ => ⟨p1,letP_i ⟨fun _ => e1,fun h => by dsimp only at h; rw [p2] at h; exact absurd (by decide) h⟩⟩
    ·unfold edgeParts
     rw [letV_e]
     dsimp only
     rw [hf,if_neg (by decide),if_neg h15,letV_e,p2,if_pos (by decide),letV_e,e2,if_pos rfl]
     decide
   | true =>
    obtain ⟨p1,p2,p3⟩ := eparts_law hm
    have low := parts_low m y (by omega) p3
    have hml := more_len m (three y)
    have c0 : (0 + m.1.length) < 1099511627776 ∧ (0 + m.2.1.length) < 1099511627776 ∧ (0 + m.2.2.1.length) < 1099511627776 ∧ (0 + m.2.2.2.length) < 1099511627776 ∧ (([] : List T3) ++ m.2.2.2).length + 1 < 1099511627776 := by
     rw [List.nil_append]; omega
    cases hm' : meshB (more m (three y)) with
    | false =>
     obtain ⟨q1,q2⟩ := eparts_bad hm'
     obtain ⟨t1,t2⟩ := meshis_law (more m (three y))
     rw [hm'] at t2
     constructor
     ·unfold edgeParts_pre
      exact letP_i fun _ _ => ⟨p1,letP_i ⟨fun h => by dsimp only at h; rw [p2] at h; exact absurd h (by decide),fun _ => ⟨low.1,letP_i (cS_r low.2 ⟨c0.1,c0.2.1,c0.2.2.1,c0.2.2.2.1,letP_i ⟨c0.2.2.2.2,q1,letP_i ⟨fun _ => ⟨e1,letP_i fun _ => t1⟩,fun h => by
       have h : ¬ ((eparts (more m (three y))).2 != 0) = true := h
       rw [q2] at h; exact absurd (by decide) h⟩⟩⟩)⟩⟩⟩
     ·unfold edgeParts
      rw [letV_e]
      dsimp only
      rw [hf,if_neg (by decide),if_neg h15,letV_e,p2,if_neg (by decide),letV_e,low.2,Sum.elim_inr,letV_e,letV_e]
      rw [show (([] ++ m.1,([] ++ m.2.1,([] ++ m.2.2.1,([] ++ m.2.2.2) ++ [three y]))) : Msh) = more m (three y) from rfl,q2,if_pos (by decide),letV_e,e2,if_pos rfl,letV_e,t2]
      rfl
    | true =>
     obtain ⟨q1,q2,q3⟩ := eparts_law hm'
     have join := parts_join m y (three y) (by omega) p3 q3
     constructor
     ·unfold edgeParts_pre
      exact letP_i fun _ _ => ⟨p1,letP_i ⟨fun h => by dsimp only at h; rw [p2] at h; exact absurd h (by decide),fun _ => ⟨low.1,letP_i (cS_r low.2 ⟨c0.1,c0.2.1,c0.2.2.1,c0.2.2.2.1,letP_i ⟨c0.2.2.2.2,q1,letP_i ⟨fun h => by
       have h : ((eparts (more m (three y))).2 != 0) = true := h
       rw [q2] at h; exact absurd h (by decide),fun _ => ⟨join.1,letP_i (cS_r join.2 e1)⟩⟩⟩⟩)⟩⟩⟩
     ·unfold edgeParts
      rw [letV_e]
      dsimp only
      rw [hf,if_neg (by decide),if_neg h15,letV_e,p2,if_neg (by decide),letV_e,low.2,Sum.elim_inr,letV_e,letV_e]
      rw [show (([] ++ m.1,([] ++ m.2.1,([] ++ m.2.2.1,([] ++ m.2.2.2) ++ [three y]))) : Msh) = more m (three y) from rfl,q2,if_neg (by decide),letV_e,join.2,Sum.elim_inr,letV_e,e2,if_pos rfl]
      dsimp only
      rw [p3.len,q3.len,hml,w64_id (by omega) (by omega)]
      simp
end Go.Proofs.Ytleemdeodmdnkaa
