/- Plain laws: what is built of triangles; the document's rows. -/
import Derived.Test.YtaipcbdilkcdbaaVg
import Derived.Test.YtaipcbdilkcdbaaUd
noncomputable section
set_option linter.unusedSectionVars false
set_option linter.unusedVariables false
set_option linter.unusedSimpArgs false
namespace Go.Proofs.Ytaipcbdilkcdbaa
open Go Go.Ev Go.Proofs
theorem smallT_law (t : T3) : smallT_pre t ∧ (smallT t = true ↔ ¬ ∀ p ∈ tp3 t,Sm3 p) := by
 obtain ⟨s1,s2⟩ := small3_law [t.1,t.2.1,t.2.2] (by simp)
 refine ⟨s1,?_⟩
 unfold smallT letV
 rw [s2,Bool.not_eq_true',decide_eq_false_iff_not]
 exact Iff.rfl
theorem smallF_law (L : List T3) (hl : L.length < 4611686018427387904) : smallF_pre L ∧ (smallF L = true ↔ SmL L) := by
 have hh := index_loop L hl smallT (indexT_l0_step (L,false)) (indexT_l0_pre (L,false)) (fun i hi => by
   unfold indexT_l0_pre
   intro h
   simp only [Int.toNat_natCast]
   dsimp only at h ⊢
   exact ⟨by omega,by omega,by omega,(smallT_law _).1⟩) (fun i x hx => by
   have hlt := lt_of_get hx
   unfold indexT_l0_step letV
   dsimp only
   rw [if_pos (by omega),Int.toNat_natCast,getD_of hx]) (by
   unfold indexT_l0_step
   dsimp only
   rw [if_neg (by omega)])
 refine ⟨hh.1,?_⟩
 have e : indexT (L,false) = _ := hh.2
 unfold smallF containsT letV
 dsimp only
 rw [e]
 have e2 := find_any L smallT
 refine (iff_of_eq (congrArg (fun b : Bool => (!b) = true) e2)).trans ?_
 rw [Bool.not_eq_true',List.any_eq_false]
 unfold SmL
 constructor
 ·intro h t ht
  have := h t ht
  rw [(smallT_law t).2] at this
  exact Classical.byContradiction this
 ·intro h t ht
  rw [(smallT_law t).2]
  exact fun q => q (h t ht)
def rng (n:Nat) : List Int := (List.range n).map fun (i:Nat) => (i:Int)
theorem rng_len (n:Nat) : (rng n).length = n := by simp [rng]
theorem rng_succ (n:Nat) : rng (n + 1) = rng n ++ [(n:Int)] := by simp [rng,List.range_succ]
theorem rng_mem (n:Nat) (x:Int) : x ∈ rng n ↔ 0 ≤ x ∧ x < (n:Int) := by
 simp only [rng,List.mem_map,List.mem_range]
 constructor
 ·rintro ⟨a,ha,rfl⟩; omega
 ·rintro ⟨h1,h2⟩; exact ⟨x.toNat,by omega,by omega⟩
theorem rng_nodup (n:Nat) : (rng n).Nodup := by
 unfold rng
 rw [List.nodup_iff_pairwise_ne,List.pairwise_map]
 exact (List.nodup_iff_pairwise_ne.1 List.nodup_range).imp fun h e => h (by omega)
theorem build_loop (L : List T3) (hl : L.length ≤ 1000) : TR (buildT_l1_step L) (buildT_l1_pre L) (List.replicate L.length 0,0) fun r => r = rng L.length := by
 have hrl : (List.replicate L.length (0:Int)).length = L.length := List.length_replicate
 refine for_loop L.length (fun i s => s = (rng i ++ List.replicate (L.length - i) 0,(i:Int))) _ (fun i s hi hJ => ?_) (fun s hJ => ?_) (by simp [rng])
 ·subst hJ
  have hlen : (rng i ++ List.replicate (L.length - i) (0:Int)).length = L.length := by rw [List.length_append,rng_len,List.length_replicate]; omega
  have hset : (rng i ++ List.replicate (L.length - i) (0:Int)).set i (i:Int) = rng (i + 1) ++ List.replicate (L.length - (i + 1)) 0 := by
   have e : L.length - i = (L.length - (i + 1)) + 1 := by omega
   rw [e,List.replicate_succ,rng_succ]
   have := set_mid (rng i) (List.replicate (L.length - (i + 1)) (0:Int)) 0 (i:Int)
   rw [rng_len] at this
   rw [this]; simp
  refine ⟨?_,.inl ⟨_,?_,rfl⟩⟩
  ·unfold buildT_l1_pre
   intro _
   dsimp only
   rw [Int.toNat_natCast,hlen]; omega
  ·unfold buildT_l1_step letV
   dsimp only
   rw [hrl,if_pos (by omega),Int.toNat_natCast,hset,cntI hi (by omega)]
 ·subst hJ
  refine ⟨?_,rng L.length ++ List.replicate (L.length - L.length) 0,?_,by simp⟩
  ·unfold buildT_l1_pre
   intro q
   dsimp only at q
   rw [hrl] at q; omega
  ·unfold buildT_l1_step
   dsimp only
   rw [hrl,if_neg (by omega)]
theorem buildT_law (L : List T3) (hl : L.length ≤ 500) : buildT_pre L ∧ ((¬ SmL L ∧ buildT L = ([],5)) ∨ (SmL L ∧ ∃ G N U,buildT L = (G,0) ∧ G.length ≤ 1000 ∧ TreeOf L 0 (-1) (rng L.length) G N U)) := by
 obtain ⟨s1,s2⟩ := smallF_law L (by omega)
 have k := build_loop L (by omega)
 have hi : InL L (rng L.length) := fun i h => (rng_mem _ _).1 h
 obtain ⟨g1,G,N,U,g2,g3,g4⟩ := growT_law (L := L) (pl := rng L.length) [] hi (by rw [rng_len]; omega) (by simp)
 have hb : ¬ ((L.length:Nat):Int) > 500 := by omega
 unfold buildT_pre buildT letP letV
 rw [if_neg hb]
 cases hs : smallF L with
 | false =>
  exact ⟨fun _ => ⟨s1,fun q => absurd (by decide) q⟩,.inl ⟨fun q => (by rw [s2.2 q] at hs; cases hs),rfl⟩⟩
 | true =>
  dsimp only
  rw [if_neg (by decide),k.2]
  rw [rng_len] at g3
  refine ⟨fun _ => ⟨s1,fun _ => ⟨⟨by omega,by omega⟩,k.1,g1⟩⟩,.inr ⟨s2.1 hs,G,N,U,?_,by omega,g4⟩⟩
  rw [g2]; rfl
theorem oddT_law (i:Int) (L : List T3) : oddT (i,L) = true ↔ ¬ (0 ≤ i ∧ i < (L.length:Int)) := by
 unfold oddT
 dsimp only
 by_cases h : i < 0
 ·rw [if_pos h]; simp only [true_iff]; omega
 ·rw [if_neg h,decide_eq_true_eq]; omega
theorem containsI_law (l : List Int) (hl : l.length < 4611686018427387904) (L : List T3) : containsI_pre (l,L) ∧ (containsI (l,L) = true ↔ ¬ InL L l) := by
 have hh := index_loop l hl (fun o => oddT (o,L)) (indexI_l0_step (l,L)) (indexI_l0_pre (l,L)) (fun i hi => by
   unfold indexI_l0_pre
   intro h
   simp only [Int.toNat_natCast]
   dsimp only at h ⊢; omega) (fun i x hx => by
   have hlt := lt_of_get hx
   unfold indexI_l0_step letV
   dsimp only
   rw [if_pos (by omega),Int.toNat_natCast,getD_of hx]) (by
   unfold indexI_l0_step
   dsimp only
   rw [if_neg (by omega)])
 refine ⟨hh.1,?_⟩
 have e : indexI (l,L) = _ := hh.2
 unfold containsI letV
 rw [e]
 refine (iff_of_eq (congrArg (fun b : Bool => b = true) (find_any l fun o => oddT (o,L)))).trans ?_
 rw [List.any_eq_true]
 unfold InL
 constructor
 ·rintro ⟨x,h1,h2⟩ h3
  rw [oddT_law] at h2
  exact h2 (h3 x h1)
 ·intro h
  refine Classical.byContradiction fun h2 => h fun i hi => Classical.byContradiction fun h3 => h2 ⟨i,hi,?_⟩
  rw [oddT_law]; exact h3
theorem splitN_law {L : List T3} {pl : List Int} (hL : L.length ≤ 1000) (hl : pl.length ≤ 1000) : splitN_pre (L,pl) ∧
  ((¬ SmL L ∧ splitN (L,pl) = ([],([],5))) ∨ (SmL L ∧ ¬ (2 ≤ pl.length ∧ InL L pl) ∧ splitN (L,pl) = ([],([],1))) ∨ (SmL L ∧ 2 ≤ pl.length ∧ InL L pl ∧ splitN (L,pl) = ((srtd L pl).take (pl.length / 2),((srtd L pl).drop (pl.length / 2),0)))) := by
 obtain ⟨s1,s2⟩ := smallF_law L (by omega)
 obtain ⟨c1,c2⟩ := containsI_law pl (by omega) L
 unfold splitN_pre splitN letP letV
 dsimp only
 cases hs : smallF L with
 | false => exact ⟨⟨s1,fun q => absurd (by decide) q⟩,.inl ⟨fun q => (by rw [s2.2 q] at hs; cases hs),rfl⟩⟩
 | true =>
  rw [if_neg (by decide)]
  have hS := s2.1 hs
  by_cases h2 : ((pl.length:Nat):Int) < 2
  ·rw [if_pos h2]
   exact ⟨⟨s1,fun _ q => absurd h2 q⟩,.inr (.inl ⟨hS,fun q => by omega,rfl⟩)⟩
  ·rw [if_neg h2]
   cases hc : containsI (pl,L) with
   | true => exact ⟨⟨s1,fun _ _ => ⟨c1,fun q => absurd rfl q⟩⟩,.inr (.inl ⟨hS,fun q => (c2.1 hc) q.2,rfl⟩)⟩
   | false =>
    have hi : InL L pl := Classical.byContradiction fun q => by rw [c2.2 q] at hc; cases hc
    obtain ⟨b1,_⟩ := boxF_law hi (by omega)
    obtain ⟨g1,g2,g3⟩ := longest_law (boxF (L,pl))
    have hf : Fine (L,axs L pl) pl := ⟨by omega,fun e he => hi e he,g2,g3⟩
    obtain ⟨t1,t2⟩ := sort_law hf
    have hperm := (srt_perm (L,axs L pl) pl).length_eq
    have e1 : w64 (Int.tdiv ((pl.length:Nat):Int) 2) = ((pl.length / 2:Nat):Int) := by
     rw [Int.tdiv_eq_ediv_of_nonneg (by omega),w64_id (by omega) (by omega)]; omega
    have t2' : (sortM (cloneI pl,(L,(longest (boxF (L,pl))).1))).2.1 = srtd L pl := t2
    have t1' : sortM_pre (cloneI pl,(L,(longest (boxF (L,pl))).1)) := t1
    have hlen : (srtd L pl).length = pl.length := hperm
    rw [t2',hlen,e1,Int.toNat_natCast,if_neg (by decide)]
    refine ⟨⟨s1,fun _ _ => ⟨c1,fun _ => ⟨b1,g1,cloneI_p pl (by omega),t1',⟨by omega,by omega⟩,⟨by omega,by omega⟩,⟨by omega,by omega⟩,cloneI_p _ (by rw [List.length_drop]; omega)⟩⟩⟩,.inr (.inr ⟨hS,by omega,hi,rfl⟩)⟩
theorem srt_sorted (r : RT) (d : List Int) : (srt r d).Pairwise fun x y => ltM r y x = false := by
 have h := List.pairwise_mergeSort (le := fun x y => !ltM r y x) (fun a b c h1 h2 => by
  simp only [Bool.not_eq_true'] at h1 h2 ⊢
  rw [ltM_f] at *; omega) (fun a b => by
  simp only [Bool.or_eq_true,Bool.not_eq_true']
  rw [ltM_f,ltM_f]; omega) d
 exact h.imp fun h => by simpa using h
theorem srt_eq {r : RT} {d e : List Int} (hp : d.Perm e) (hs : e.Pairwise fun x y => ltM r y x = false) : srt r d = e :=
 ((srt_perm r d).trans hp).eq_of_pairwise (fun a b _ _ h1 h2 => (ltM_total r a b h2 h1)) (srt_sorted r d) hs
instance (p q : P3) : Decidable (Le3 p q) := by unfold Le3; infer_instance
abbrev l0 : List T3 := [((0,(0,0)),((5,(0,0)),(0,(1,0)))),((10,(0,0)),((15,(0,0)),(10,(1,0)))),((20,(0,0)),((25,(0,0)),(20,(1,0))))]
abbrev b0 : B3 := ((0,(0,0)),(25,(1,0)))
theorem along0 : alongM 0 = ((0,(0,0)),((5,(0,0)),(0,(1,0)))) := by kernel_rfl
theorem along1 : alongM 10 = ((10,(0,0)),((15,(0,0)),(10,(1,0)))) := by kernel_rfl
theorem along2 : alongM 20 = ((20,(0,0)),((25,(0,0)),(20,(1,0)))) := by kernel_rfl
theorem l0_sm : SmL l0 := by
 intro t ht p hp
 simp only [l0,List.mem_cons,List.not_mem_nil,or_false] at ht
 rcases ht with rfl | rfl | rfl <;> (simp only [tp3,List.mem_cons,List.not_mem_nil,or_false] at hp; rcases hp with rfl | rfl | rfl <;> decide)
theorem p0_in : InL l0 [0,1,2] := by
 intro i hi
 simp only [List.mem_cons,List.not_mem_nil,or_false] at hi
 rcases hi with rfl | rfl | rfl <;> decide
theorem box0 {pl : List Int} (hp : pl.Perm [0,1,2]) : InL l0 pl ∧ boxF (l0,pl) = b0 := by
 have hi : InL l0 pl := fun i h => p0_in i (hp.mem_iff.1 h)
 have hlen := hp.length_eq
 refine ⟨hi,?_⟩
 have h := boxF_is l0_sm hi (by rw [hlen]; decide) (fun e => by rw [e] at hlen; simp at hlen)
 have h2 : IsB (ptsOf l0 [0,1,2]) b0 := ⟨by decide,by decide,⟨(0,(0,0)),by decide,rfl⟩,⟨(0,(0,0)),by decide,rfl⟩,⟨(0,(0,0)),by decide,rfl⟩,⟨(25,(0,0)),by decide,rfl⟩,⟨(0,(1,0)),by decide,rfl⟩,⟨(0,(0,0)),by decide,rfl⟩⟩
 exact (h.mem (ptsOf_mem fun i => hp.mem_iff)).uniq h2
theorem long0 : (longest b0).1 = 0 := by
 have key : run (longest_l0_step b0) (b0.1.1,(b0.1.2.1,(b0.1.2.2,(b0.2.1,(b0.2.2.1,(b0.2.2.2,(0,0))))))) = 0 := by
  rw [run_eq]
  show run (longest_l0_step b0) (0,(0,(0,(25,(1,(0,(0,1))))))) = 0
  rw [run_eq]
  show run (longest_l0_step b0) (0,(0,(0,(25,(1,(0,(0,2))))))) = 0
  rw [run_eq]
  show run (longest_l0_step b0) (0,(0,(0,(25,(1,(0,(0,3))))))) = 0
  rw [run_eq]
  rfl
 have hs : slabIs b0 = true := (slabIs_law b0).2.2 (by decide)
 unfold longest letV parts
 rw [hs]
 dsimp only
 rw [if_neg (by decide)]
 exact key
theorem mid0 : mid (l0,0) 0 = 5 := by kernel_rfl
theorem mid1 : mid (l0,0) 1 = 35 := by kernel_rfl
theorem mid2 : mid (l0,0) 2 = 65 := by kernel_rfl
theorem srtd0 {pl : List Int} (hp : pl.Perm [0,1,2]) : srtd l0 pl = [0,1,2] := by
 unfold srtd axs
 rw [(box0 hp).2,long0]
 refine srt_eq hp ?_
 have h1 : ltM (l0,0) 1 0 = false := by rw [ltM_f,mid0,mid1]; decide
 have h2 : ltM (l0,0) 2 0 = false := by rw [ltM_f,mid0,mid2]; decide
 have h3 : ltM (l0,0) 2 1 = false := by rw [ltM_f,mid1,mid2]; decide
 simp [h1,h2,h3]
end Go.Proofs.Ytaipcbdilkcdbaa
