/- Plain laws: EdgeNext. -/
import Derived.Test.YtleemdeodmdnkaaKl
import Derived.Test.YtleemdeodmdnkaaEh
noncomputable section
set_option linter.unusedSectionVars false
set_option linter.unusedVariables false
set_option linter.unusedSimpArgs false
namespace Go.Proofs.Ytleemdeodmdnkaa
open Go Go.Ev Go.Proofs
theorem shared14_law {l : List EdgeV} (h : Sml l) {i k : Int} {e : EdgeV} (he : e ∈ l) (hi : i ∈ e.2.2) (hk : k ∈ e.2.2) : shared14_pre (l,(i,k)) ∧ shared14 (l,(i,k)) = true := by
 have key : TR (shared14_l0_step (l,(i,k))) (shared14_l0_pre (l,(i,k))) 0 (fun r => Sum.elim (fun _ => true) (fun _ => false) r = true) := by
  refine for_loop l.length (fun j s => s = (j:Int) ∧ ∀ x ∈ l.take j,¬ (i ∈ x.2.2 ∧ k ∈ x.2.2)) _ (fun j s hj ⟨e,h1⟩ => ?_) (fun s ⟨e,h1⟩ => ?_) ⟨rfl,by simp⟩
  ·subst e
   have hin := h.2 _ (getD_in hj ((0:Int),((0:Int),([] : List Int))))
   obtain ⟨a1,a2⟩ := in14_law hin i
   obtain ⟨b1,b2⟩ := in14_law hin k
   constructor
   ·unfold shared14_l0_pre
    dsimp only [letP]
    intro _
    rw [Int.toNat_natCast]
    exact ⟨⟨by omega,by omega⟩,hj,hj,hj,a1,fun _ => ⟨⟨by omega,by omega⟩,hj,hj,hj,b1⟩⟩
   ·unfold shared14_l0_step
    dsimp only [letV]
    rw [if_pos (by omega),Int.toNat_natCast,a2,b2,cnt (n := 1000000) (by have := h.1; omega) (by omega)]
    have hsn := fun (q : ¬ (i ∈ (l.getD j (0,(0,[]))).2.2 ∧ k ∈ (l.getD j (0,(0,[]))).2.2)) (x : EdgeV) (hx : x ∈ l.take (j + 1)) => (show ¬ (i ∈ x.2.2 ∧ k ∈ x.2.2) by
     rw [take_snoc hj (0,(0,[])),List.mem_append,List.mem_singleton] at hx
     rcases hx with hx | rfl
     ·exact h1 x hx
     ·exact q)
    by_cases q1 : i ∈ (l.getD j (0,(0,[]))).2.2
    ·rw [if_pos (decide_eq_true q1)]
     by_cases q2 : k ∈ (l.getD j (0,(0,[]))).2.2
     ·rw [if_pos (decide_eq_true q2)]
      exact .inr ⟨_,rfl,rfl⟩
     ·rw [if_neg (by simpa using q2)]
      exact .inl ⟨_,rfl,rfl,hsn fun q => q2 q.2⟩
    ·rw [if_neg (by simpa using q1)]
     exact .inl ⟨_,rfl,rfl,hsn fun q => q1 q.1⟩
  ·subst e
   rw [List.take_length] at h1
   exact absurd ⟨hi,hk⟩ (h1 _ he)
 exact ⟨key.1,key.2⟩
theorem next_in {m : Msh} (hm : meshB m = true) {l : List EdgeV} (hl : EdOf m l) (hs : Sml l) {p : List Int} (hp : Parts m p) {i : Int} (hi : Has m i) {ns : List Int} (hns : ∀ k,k ∈ ns ↔ Adj m i k) (hlt : ns.Pairwise (· < ·)) (hnl : ns.length ≤ 4500) :
  TR (edgeNext_l2_step m) (edgeNext_l2_pre m) (l,(p,(i,(ns,0)))) (fun r => r = .inr (l,(p,i))) := by
 have hn := (mesh_len hm).2.2.2
 refine for_loop ns.length (fun k s => s = (l,(p,(i,(ns,(k:Int)))))) _ (fun k s hk e => ?_) (fun s e => ?_) rfl
 ·subst e
  obtain ⟨nk,hnk⟩ : ∃ nk,nk = ns.getD k 0 := ⟨_,rfl⟩
  have hA : Adj m i nk := (hns nk).1 (by rw [hnk]; exact getD_in hk 0)
  obtain ⟨ha1,ha2,q,hq1,hq2⟩ := hA
  have hA : Adj m i nk := ⟨ha1,ha2,q,hq1,hq2⟩
  obtain ⟨n1,n2,n3,_,_⟩ := enext_full hm ha2
  obtain ⟨c1,c2⟩ := in14_law (l := (enext (m,nk)).1) (by omega) i
  have hin : i ∈ (enext (m,nk)).1 := (n2 i).2 (adj_symm hi hA)
  have hti : i ∈ Tris m q := tris_mem.2 ⟨hi,hq1⟩
  have htk : nk ∈ Tris m q := tris_mem.2 ⟨ha2,hq2⟩
  have hee : (q.1,(q.2,Tris m q)) ∈ l := (hl.2 _).2 ⟨rfl,fun e => by
   have e : Tris m q = [] := e
   rw [e] at hti; cases hti⟩
  obtain ⟨s1,s2⟩ := shared14_law hs hee hti htk
  have hpp : p.getD nk.toNat 0 = p.getD i.toNat 0 := hp.adj i nk hi hA
  have hpl : (p.length:Int) = m.2.2.2.length := by rw [hp.len]
  have hi1 := hi.1
  have hi2 := hi.2
  have hk1 := ha2.1
  have hk2 := ha2.2
  have hw : 0 < k → w64 ((k:Int) - 1) = ((k - 1:Nat):Int) := fun h => by rw [w64_id (by omega) (by omega)]; omega
  have hpv : 0 < k → ns.getD (k - 1) 0 < nk := fun h => by
   have := List.pairwise_iff_getElem.1 hlt (k - 1) k (by omega) hk (by omega)
   rw [hnk,List.getD_eq_getElem?_getD,List.getElem?_eq_getElem (by omega),List.getD_eq_getElem?_getD,List.getElem?_eq_getElem hk]
   exact this
  have b : (0:Int) ≤ (k:Int) ∧ (k:Int) < ((ns.length:Nat):Int) := ⟨by omega,by omega⟩
  constructor
  ·unfold edgeNext_l2_pre
   dsimp only [letP]
   intro _
   rw [Int.toNat_natCast,← hnk]
   refine ⟨b,hk,hk,fun _ => ⟨b,hk,hk,fun _ => ⟨b,hk,hk,fun _ => ⟨b,hk,hk,⟨hk1,by omega⟩,by omega,by omega,⟨hi1,by omega⟩,by omega,by omega,fun _ => ⟨fun h0 => ?_,fun _ => ?_⟩⟩⟩⟩⟩
   ·rw [hw (by omega),Int.toNat_natCast]
    exact ⟨⟨by omega,by omega⟩,by omega,by omega,b,hk,hk,fun _ => ⟨b,hk,hk,n1,c1,fun _ => ⟨b,hk,hk,s1⟩⟩⟩
   ·exact ⟨b,hk,hk,n1,c1,fun _ => ⟨b,hk,hk,s1⟩⟩
  ·refine .inl ?_
   unfold edgeNext_l2_step
   dsimp only [letV]
   rw [Int.toNat_natCast,← hnk,if_pos b.2,if_neg (by omega),if_neg (by omega),if_neg (by simpa using ha1),if_neg (by rw [hpp]; simp),c2,decide_eq_true hin,s2,cnt (n := 4500) (by omega) (by omega)]
   by_cases h0 : 0 < k
   ·rw [if_pos (by omega),hw h0,Int.toNat_natCast,if_neg (by have := hpv h0; omega)]
    exact ⟨_,rfl,rfl⟩
   ·rw [if_neg (by omega)]
    exact ⟨_,rfl,rfl⟩
 ·subst e
  constructor
  ·unfold edgeNext_l2_pre
   dsimp only
   intro h; omega
  ·unfold edgeNext_l2_step
   dsimp only
   rw [if_neg (by omega)]
   exact ⟨_,rfl,rfl⟩
theorem next_law (m : Msh) : edgeNext_pre m ∧ edgeNext m = true := by
 obtain ⟨e1,e2⟩ := edged_law
 obtain ⟨t1,t2⟩ := meshis_law m
 cases hf : few14 m with
 | false =>
  constructor
  ·unfold edgeNext_pre
   exact letP_i ⟨fun _ => e1,fun h => by rw [hf] at h; exact absurd rfl h⟩
  ·unfold edgeNext
   rw [letV_e,hf,if_pos (by decide),letV_e,e2]
 | true =>
  cases hm : meshB m with
  | false =>
   rw [hm] at t2
   constructor
   ·unfold edgeNext_pre
    exact letP_i ⟨fun h => by rw [hf] at h; exact absurd h (by decide),fun _ => ⟨t1,letP_i ⟨fun _ => e1,fun h => by rw [t2] at h; exact absurd rfl h⟩⟩⟩
   ·unfold edgeNext
    rw [letV_e,hf,if_neg (by decide),letV_e,t2,if_pos (by decide),letV_e,e2]
  | true =>
   rw [hm] at t2
   obtain ⟨d1,d2,d3,d4⟩ := eedges_law hm
   obtain ⟨p1,p2,p3⟩ := eparts_law hm
   have hn := (mesh_len hm).2.2.2
   have hs := d3.sml hn d4
   have key : TR (edgeNext_l0_step m) (edgeNext_l0_pre m) ((eedges m).1,((eparts m).1,0)) (fun r => r = .inr ()) := by
    refine for_loop m.2.2.2.length (fun i s => s = ((eedges m).1,((eparts m).1,(i:Int)))) _ (fun i s hi e => ?_) (fun s e => ?_) rfl
    ·subst e
     have hi' : Has m (i:Int) := ⟨by omega,by omega⟩
     obtain ⟨n1,n2,n3,n4,n5⟩ := enext_full hm hi'
     have hin := next_in hm d3 hs p3 hi' n2 n4 n3
     constructor
     ·unfold edgeNext_l0_pre
      intro _
      exact ⟨n1,letP_i fun _ => hin.1⟩
     ·refine .inl ?_
      unfold edgeNext_l0_step
      rw [if_pos (by dsimp only; omega),letV_e]
      dsimp only
      rw [n5,if_neg (by decide),letV_e,hin.2,Sum.elim_inr]
      rw [cnt (n := 500) (by omega) (by omega)]
      exact ⟨_,rfl,rfl⟩
    ·subst e
     constructor
     ·unfold edgeNext_l0_pre
      dsimp only
      intro h; omega
     ·unfold edgeNext_l0_step
      dsimp only
      rw [if_neg (by omega)]
      exact ⟨_,rfl,rfl⟩
   constructor
   ·unfold edgeNext_pre
    exact letP_i ⟨fun h => by rw [hf] at h; exact absurd h (by decide),fun _ => ⟨t1,letP_i ⟨fun h => by rw [t2] at h; exact absurd h (by decide),fun _ => ⟨d1,letP_i ⟨p1,letP_i fun _ _ _ => ⟨key.1,letP_i (cS_r key.2 e1)⟩⟩⟩⟩⟩⟩
   ·unfold edgeNext
    rw [letV_e,hf,if_neg (by decide),letV_e,t2,if_neg (by decide),letV_e,letV_e,d2,p2,if_neg (by decide),if_neg (by decide),p3.len,if_neg (by simp),letV_e,key.2,Sum.elim_inr,letV_e,e2]
end Go.Proofs.Ytleemdeodmdnkaa
