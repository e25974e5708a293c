/- Plain laws: the document's rows. -/
import Derived.Test.YtaipcbdilkcdbaaVh
noncomputable section
set_option linter.unusedSectionVars false
set_option linter.unusedVariables false
set_option linter.unusedSimpArgs false
namespace Go.Proofs.Ytaipcbdilkcdbaa
open Go Go.Ev Go.Proofs
theorem sameI_law (a b : List Int) (hl : a.length < 4611686018427387904) : sameI_pre (a,b) ∧ (sameI (a,b) = true ↔ a = b) := by
 unfold sameI_pre sameI
 dsimp only [letP,letV]
 by_cases h : a.length = b.length
 ·have hn : ¬ ((((a.length:Nat):Int) != ((b.length:Nat):Int)) = true) := by simp [h]
  obtain ⟨h1,h2⟩ := loop_inv (step := sameI_l0_step (a,b)) (pre := sameI_l0_pre (a,b)) (fun s => ∃ i : Nat,s = (i:Int) ∧ i ≤ a.length ∧ a.take i = b.take i) (fun s => a.length - s.toNat)
   (fun r => (r = .inl () ∧ a ≠ b) ∨ (r = .inr () ∧ a = b)) (fun s ⟨i,e,hi,hf⟩ => by
    subst e
    unfold sameI_l0_step sameI_l0_pre
    dsimp only
    simp only [Int.toNat_natCast]
    refine ⟨fun q => ⟨by omega,by omega,by omega,by omega,by omega,by omega⟩,fun s' q => ?_,fun r q => ?_⟩
    ·split at q
     ·rename_i hlt
      have hlt : i < a.length := by omega
      split at q
      ·cases q
      ·rename_i hne
       cases q
       refine ⟨⟨i + 1,cnt hlt (by omega),hlt,?_⟩,?_⟩
       ·rw [List.take_succ_eq_append_getElem hlt,List.take_succ_eq_append_getElem (show i < b.length by omega),hf]
        congr 2
        simpa [List.getD_eq_getElem?_getD,List.getElem?_eq_getElem hlt,List.getElem?_eq_getElem (show i < b.length by omega)] using hne
       ·rw [cnt hlt (by omega)]
        simp only [Int.toNat_natCast]; omega
     ·cases q
    ·split at q
     ·split at q
      ·rename_i hne
       cases q
       refine .inl ⟨rfl,fun e => ?_⟩
       rw [e] at hne; simp at hne
      ·cases q
     ·cases q
      have : i = a.length := by omega
      subst this
      rw [List.take_length,h,List.take_length] at hf
      exact .inr ⟨rfl,hf⟩) 0 ⟨0,rfl,Nat.zero_le _,rfl⟩
  refine ⟨fun _ => h1,?_⟩
  rw [if_neg hn]
  rcases h2 with ⟨e,q⟩ | ⟨e,q⟩
  ·rw [e]; exact ⟨fun z => (by cases z),fun z => absurd z q⟩
  ·rw [e]; exact ⟨fun _ => q,fun _ => rfl⟩
 ·have hn : (((a.length:Nat):Int) != ((b.length:Nat):Int)) = true := by simp; omega
  refine ⟨fun q => absurd hn q,?_⟩
  rw [if_pos hn]
  exact ⟨fun q => (by cases q),fun q => absurd (by rw [q]) h⟩

theorem rng3 : rng 3 = [0,1,2] := rfl
theorem tree3 {G : List Brn} {N : List (List Int)} {U : List Int} (h : TreeOf l0 0 (-1) (rng 3) G N U) : ∃ x y z : B3,G = [(x,(1,(2,[]))),(y,(0,(0,[0]))),(z,(0,(0,[1,2])))] := by
 rw [rng3] at h
 generalize hpl : ([0,1,2] : List Int) = pl at h
 cases h with
 | leaf _ _ _ hl => subst hpl; simp at hl
 | fork _ _ _ a b A B NA NB UA UB h2 hp ha hb he hA hB =>
  subst hpl
  rw [srtd0 (List.Perm.refl _)] at he
  simp only [List.length_cons,List.length_nil] at ha hb
  match a,ha,he with
  | [u],_,he =>
   simp only [List.cons_append,List.nil_append,List.cons.injEq] at he
   obtain ⟨rfl,rfl⟩ := he
   cases hA with
   | fork _ _ _ _ _ _ _ _ _ _ _ h2' => simp at h2'
   | leaf _ _ _ _ =>
    cases hB with
    | fork _ _ _ _ _ _ _ _ _ _ _ h2' => simp at h2'
    | leaf _ _ _ _ => exact ⟨_,_,_,rfl⟩
theorem isT_nil : isT_pre ([],[]) ∧ isT ([],[]) = false := by
 obtain ⟨r1,r2⟩ := repeat_law (-1) (n := 0) (by decide)
 have e : run (parentsT_l0_step []) ([],0) = .inr [] := by rw [run_eq]; rfl
 have ht : Term (parentsT_l0_step []) (parentsT_l0_pre []) ([],0) := .mk _ (by
  unfold parentsT_l0_pre
  intro q
  exact absurd (show (0:Int) < 0 from q) (by decide)) (fun s' q => by cases q)
 have r2' : repeatM ([(-1:Int)],(([] : List Brn).length:Int)) = [] := r2
 have hp : parentsT_pre [] := by
  unfold parentsT_pre letP
  rw [r2']
  dsimp only
  rw [e]
  exact ⟨r1,ht,fun q => absurd (show (0:Int) > 0 from q) (by decide)⟩
 have hv : parentsT [] = ([],false) := by
  unfold parentsT letV
  rw [r2']
  dsimp only
  rw [e]; rfl
 unfold isT_pre isT letP letV
 dsimp only
 rw [hv]
 exact ⟨⟨hp,fun q => absurd rfl q⟩,rfl⟩
theorem grown_law (x : Bool) : grownM_pre x ∧ grownM x = true := by
 obtain ⟨b1,b2⟩ := buildT_law l0 (by decide)
 rcases b2 with ⟨q,_⟩ | ⟨_,G,N,U,b3,b4,b5⟩
 ·exact absurd l0_sm q
 have b5 : TreeOf l0 0 (-1) (rng 3) G N U := b5
 obtain ⟨u,v,z,hG⟩ := tree3 b5
 have hf := b5.facts
 have hi3 : InL l0 (rng 3) := p0_in
 obtain ⟨i1,i2⟩ := isT_law b5 hi3 l0_sm (by decide) (by decide) (by omega) (rng_nodup 3) (fun j hj => (rng_mem _ _).2 ⟨by omega,by
  have : l0.length = 3 := rfl
  omega⟩)
 obtain ⟨n1,n2⟩ := isT_nil
 obtain ⟨d1,d,d2,d3⟩ := depth_law hf (by omega)
 have hp : ([2,0,1] : List Int).Perm [0,1,2] := by decide
 obtain ⟨s1,s2⟩ := splitN_law (L := l0) (pl := [2,0,1]) (by decide) (by decide)
 have s3 : splitN (l0,[2,0,1]) = ([0],([1,2],0)) := by
  rcases s2 with ⟨q,_⟩ | ⟨_,q,_⟩ | ⟨_,_,_,e⟩
  ·exact absurd l0_sm q
  ·exact absurd ⟨by decide,(box0 hp).1⟩ q
  ·rw [e,srtd0 hp]; rfl
 obtain ⟨t1,t2⟩ := splitN_law (L := l0) (pl := [2,3]) (by decide) (by decide)
 have t3 : splitN (l0,[2,3]) = ([],([],1)) := by
  rcases t2 with ⟨q,_⟩ | ⟨_,_,e⟩ | ⟨_,_,q,_⟩
  ·exact absurd l0_sm q
  ·exact e
  ·exact absurd (q 3 (by simp)) (by decide)
 have hd : depthT G = 2 := by
  subst hG
  have q0 := d3 0 (by simp)
  have q1 := d3 1 (by simp)
  have q2 := d3 2 (by simp)
  rw [d2]
  rcases q1 with ⟨_,_,q1⟩ | ⟨_,q1,_⟩
  ·rcases q2 with ⟨_,_,q2⟩ | ⟨_,q2,_⟩
   ·rcases q0 with ⟨q0,_⟩ | ⟨r,_,r2,_,_,r5⟩
    ·exact absurd (show (1:Int) = 0 from q0) (by decide)
    ·have hr : (2:Int) = (r:Int) := r2
     have : r = 2 := by omega
     subst this
     rw [r5,q1,q2]; rfl
   ·exact absurd (show (0:Int) = 3 from q2) (by decide)
  ·exact absurd (show (0:Int) = 2 from q1) (by decide)
 have g0 : ((G.length:Nat):Int) = 3 := by rw [hG]; rfl
 have k1 := sameI_law [0] [0] (by decide)
 have k2 := sameI_law [1,2] [1,2] (by decide)
 have k3 : sameI ([0],[0]) = true := k1.2.2 rfl
 have k4 : sameI ([1,2],[1,2]) = true := k2.2.2 rfl
 have m0 : (G.getD 0 ((((0:Int),((0:Int),(0:Int))),((0:Int),((0:Int),(0:Int)))),((0:Int),((0:Int),([] : List Int))))).2.1 = 1 := by rw [hG]; rfl
 have m1 : (G.getD 0 ((((0:Int),((0:Int),(0:Int))),((0:Int),((0:Int),(0:Int)))),((0:Int),((0:Int),([] : List Int))))).2.2.1 = 2 := by rw [hG]; rfl
 have m2 : (G.getD 1 ((((0:Int),((0:Int),(0:Int))),((0:Int),((0:Int),(0:Int)))),((0:Int),((0:Int),([] : List Int))))).2.2.2 = [0] := by rw [hG]; rfl
 have m3 : (G.getD 2 ((((0:Int),((0:Int),(0:Int))),((0:Int),((0:Int),(0:Int)))),((0:Int),((0:Int),([] : List Int))))).2.2.2 = [1,2] := by rw [hG]; rfl
 have hlen : G.length = 3 := by rw [hG]; rfl
 unfold grownM_pre grownM letP letV
 rw [along0,along1,along2]
 dsimp only
 rw [b3,s3,t3]
 dsimp only
 rw [m0,m1,m2,m3,g0,k3,k4,i2,n2,hd]
 have z2 : 0 < G.length := by omega
 have y2 : 1 < G.length := by omega
 have w2 : 2 < G.length := by omega
 exact ⟨⟨b1,s1,t1,fun _ _ => ⟨by decide,z2,z2,z2,fun _ => ⟨by decide,z2,z2,z2,fun _ => ⟨by decide,y2,y2,y2,k1.1,fun _ => ⟨by decide,w2,w2,w2,k2.1,fun _ _ => ⟨k1.1,fun _ => ⟨k2.1,fun _ _ => ⟨i1,fun _ => ⟨n1,fun _ => d1⟩⟩⟩⟩⟩⟩⟩⟩⟩,rfl⟩
end Go.Proofs.Ytaipcbdilkcdbaa

namespace Go.Proofs.Ytaipcbdilkcdbaa
open Go Go.Ev Go.Proofs
section
variable {L : List T3} {pl : List Int} {G : List Brn} {N : List (List Int)} {U : List Int} (h : Facts L 0 (-1) pl G N U) (hi : InL L pl) (hs : SmL L) (hn : pl.length ≤ 1000)
include h hi hs hn
theorem bx4_law (hN : ∀ k,k < G.length → (N.getD k []).length ≤ 1000) {k : Nat} (hk : k < G.length) {i : Nat} (hq : i < (G.getD k zB).2.2.2.length) :
  TR (lawBoxes_l4_step L) (lawBoxes_l4_pre L) (G,((k:Int),((i:Int),0))) fun r => r = .inr (G,((k:Int),(i:Int))) := by
 have hv : (G.getD k zB).2.2.2.getD i 0 ∈ N.getD k [] := by
  rcases h.kind0 hk with ⟨_,_,e,_⟩ | ⟨r,_,_,_,_,e,_⟩
  ·rw [← e]; exact getD_in hq 0
  ·rw [e] at hq; exact absurd hq (Nat.not_lt_zero _)
 have hin := hi _ (h.sub k hk _ hv)
 have hhas := h.has hi hs hn hN hk hv
 have hlt : ((G.getD k zB).2.2.2.getD i 0).toNat < L.length := by omega
 have m1 : ¬ (G.getD k zB).2.2.2.getD i 0 < 0 := by omega
 have m2 : ¬ (G.getD k zB).2.2.2.getD i 0 ≥ ((L.length:Nat):Int) := by omega
 have qa : (0 ≤ (k:Int)) ∧ (k:Int) < (G.length:Int) := ⟨by omega,by omega⟩
 have qb : (0 ≤ (i:Int)) ∧ (i:Int) < ((G.getD k zB).2.2.2.length:Int) := ⟨by omega,by omega⟩
 have hpre : ∀ j : Int,0 ≤ j → lawBoxes_l4_pre L (G,((k:Int),((i:Int),j))) := fun j h0 => by
  unfold lawBoxes_l4_pre
  dsimp only
  rw [Int.toNat_natCast,Int.toNat_natCast]
  intro q
  exact ⟨qa,hk,hk,hk,qb,hq,hq,fun _ => ⟨qa,hk,hk,hk,qb,hq,hq,fun _ => ⟨qa,hk,hk,hk,qa,hk,hk,hk,qb,hq,hq,hin,hlt,⟨h0,q⟩,hlt,by omega,hlt,(hasT_law _ _).1⟩⟩⟩
 have h0 := hhas (L.getD ((G.getD k zB).2.2.2.getD i 0).toNat zT).1 (by simp [tp3])
 have h1 := hhas (L.getD ((G.getD k zB).2.2.2.getD i 0).toNat zT).2.1 (by simp [tp3])
 have h2 := hhas (L.getD ((G.getD k zB).2.2.2.getD i 0).toNat zT).2.2 (by simp [tp3])
 refine TR.go (s' := (G,((k:Int),((i:Int),1)))) (hpre 0 (by decide)) ?_ (TR.go (s' := (G,((k:Int),((i:Int),2)))) (hpre 1 (by decide)) ?_ (TR.go (s' := (G,((k:Int),((i:Int),3)))) (hpre 2 (by decide)) ?_ (TR.stop (r := .inr (G,((k:Int),(i:Int)))) (hpre 3 (by decide)) ?_ rfl)))
 ·unfold lawBoxes_l4_step letV
  dsimp only
  rw [if_pos (by decide),Int.toNat_natCast,Int.toNat_natCast,if_neg m1,if_neg m2]
  refine (if_neg ?_).trans rfl
  show ¬ ((!hasT ((G.getD k zB).1,(L.getD ((G.getD k zB).2.2.2.getD i 0).toNat zT).1)) = true)
  rw [h0]; decide
 ·unfold lawBoxes_l4_step letV
  dsimp only
  rw [if_pos (by decide),Int.toNat_natCast,Int.toNat_natCast,if_neg m1,if_neg m2]
  refine (if_neg ?_).trans rfl
  show ¬ ((!hasT ((G.getD k zB).1,(L.getD ((G.getD k zB).2.2.2.getD i 0).toNat zT).2.1)) = true)
  rw [h1]; decide
 ·unfold lawBoxes_l4_step letV
  dsimp only
  rw [if_pos (by decide),Int.toNat_natCast,Int.toNat_natCast,if_neg m1,if_neg m2]
  refine (if_neg ?_).trans rfl
  show ¬ ((!hasT ((G.getD k zB).1,(L.getD ((G.getD k zB).2.2.2.getD i 0).toNat zT).2.2)) = true)
  rw [h2]; decide
 ·unfold lawBoxes_l4_step
  dsimp only
  rw [if_neg (by decide)]
theorem bx2_law (hN : ∀ k,k < G.length → (N.getD k []).length ≤ 1000) {k : Nat} (hk : k < G.length) :
  TR (lawBoxes_l2_step L) (lawBoxes_l2_pre L) (G,((k:Int),0)) fun r => r = .inr (G,(k:Int)) := by
 have hlen : (G.getD k zB).2.2.2.length ≤ 1000 := by
  rcases h.kind0 hk with ⟨_,_,e,e2⟩ | ⟨r,_,_,_,_,e,_⟩
  ·rw [e]; omega
  ·rw [e]; simp
 have qa : (0 ≤ (k:Int)) ∧ (k:Int) < (G.length:Int) := ⟨by omega,by omega⟩
 refine for_loop (G.getD k zB).2.2.2.length (fun i s => s = (G,((k:Int),(i:Int)))) _ (fun i s hq hJ => ?_) (fun s hJ => ?_) rfl
 ·subst hJ
  have c4 := bx4_law h hi hs hn hN hk hq
  refine ⟨?_,.inl ⟨_,?_,rfl⟩⟩
  ·unfold lawBoxes_l2_pre
   dsimp only
   rw [Int.toNat_natCast]
   exact ⟨qa,hk,hk,hk,fun _ => c4.1⟩
  ·unfold lawBoxes_l2_step letV
   dsimp only
   rw [Int.toNat_natCast,if_pos (show (i:Int) < ((G.getD k zB).2.2.2.length:Int) by omega),c4.2]
   dsimp only [Sum.elim]
   rw [cntI hq (by omega)]
 ·subst hJ
  refine ⟨?_,_,?_,rfl⟩
  ·unfold lawBoxes_l2_pre
   dsimp only
   rw [Int.toNat_natCast]
   exact ⟨qa,hk,hk,hk,fun q => absurd q (show ¬ (((G.getD k zB).2.2.2.length:Nat):Int) < ((G.getD k zB).2.2.2.length:Int) by omega)⟩
  ·unfold lawBoxes_l2_step
   dsimp only
   rw [Int.toNat_natCast,if_neg (show ¬ (((G.getD k zB).2.2.2.length:Nat):Int) < ((G.getD k zB).2.2.2.length:Int) by omega)]
theorem Facts.joined (hN : ∀ k,k < G.length → (N.getD k []).length ≤ 1000) {k r : Nat} (hk : k < G.length) (h1 : k + 1 < G.length) (h2 : r < G.length) (hp : (N.getD (k + 1) [] ++ N.getD r []).Perm (N.getD k [])) (h3 : 2 < (N.getD k []).length) :
  joinT_pre ((G.getD (k + 1) zB).1,(G.getD r zB).1) ∧ joinT ((G.getD (k + 1) zB).1,(G.getD r zB).1) = ((G.getD k zB).1,0) := by
 have hne : pl ≠ [] := fun e => by
  have hm := getD_in (show 0 < (N.getD k []).length by omega) 0
  have := h.sub k hk _ hm
  rw [e] at this; cases this
 have is_ : ∀ j,j < G.length → IsB (ptsOf L (N.getD j [])) (G.getD j zB).1 := fun j hj => by
  rw [h.box j hj]
  exact boxF_is hs (fun i hh => hi i (h.sub j hj i hh)) (by have := hN j hj; omega) (h.ne hne j hj)
 have sm_ : ∀ j,j < G.length → ∀ p ∈ ptsOf L (N.getD j []),Sm3 p := fun j hj => ptsOf_sm hs (fun i hh => hi i (h.sub j hj i hh))
 have b0 := is_ k hk
 have b1 := is_ (k + 1) h1
 have b2 := is_ r h2
 have s1 := b1.is (sm_ _ h1)
 have s2 := b2.is (sm_ _ h2)
 have q1 := slabIs_law (G.getD (k + 1) zB).1
 have q2 := slabIs_law (G.getD r zB).1
 have k1 := q1.2.2 s1
 have k2 := q2.2.2 s2
 obtain ⟨o1,o2⟩ := slabOf_law [(G.getD (k + 1) zB).1.1,(G.getD (k + 1) zB).1.2,(G.getD r zB).1.1,(G.getD r zB).1.2] (by simp)
 unfold joinT_pre joinT letP letV
 dsimp only
 rw [k1,k2]
 refine ⟨⟨q1.1,fun _ => ⟨q2.1,fun _ => o1⟩⟩,?_⟩
 rw [if_neg (by decide),if_neg (by decide)]
 rcases o2 with ⟨e,_⟩ | ⟨_,e,_⟩ | ⟨_,_,e,e2⟩
 ·cases e
 ·refine absurd (fun p hp => ?_) e
  simp only [List.mem_cons,List.not_mem_nil,or_false] at hp
  rcases hp with rfl | rfl | rfl | rfl
  ·exact s1.1.1
  ·exact s1.1.2
  ·exact s2.1.1
  ·exact s2.1.2
 ·have j := IsB.join b1 b2 e
  rw [← ptsOf_append] at j
  have j2 := (j.mem (ptsOf_mem fun i => hp.mem_iff)).uniq b0
  exact Prod.ext j2 e2
theorem bx0_law (hN : ∀ k,k < G.length → (N.getD k []).length ≤ 1000) (hG : G.length ≤ 10000) :
  TR (lawBoxes_l0_step L) (lawBoxes_l0_pre L) (G,0) fun r => r = .inr () := by
 refine for_loop G.length (fun k s => s = (G,(k:Int))) _ (fun k s hk hJ => ?_) (fun s hJ => ?_) rfl
 ·subst hJ
  have c2 := bx2_law h hi hs hn hN hk
  have qa : (0 ≤ (k:Int)) ∧ (k:Int) < (G.length:Int) := ⟨by omega,by omega⟩
  rcases h.kind0 hk with ⟨e1,e2,e3,e4⟩ | ⟨r,e1,e2,e3,e4,e5,e6,e7,e8,e9,e10⟩
  ·refine ⟨?_,.inl ⟨_,?_,rfl⟩⟩
   ·unfold lawBoxes_l0_pre letP
    dsimp only
    rw [c2.2]
    dsimp only [cS,Sum.elim]
    rw [Int.toNat_natCast,e1]
    exact fun _ => ⟨c2.1,qa,hk,hk,hk,fun q => absurd rfl q⟩
   ·unfold lawBoxes_l0_step letV
    dsimp only
    rw [if_pos (by omega),c2.2]
    dsimp only [Sum.elim]
    rw [Int.toNat_natCast,e1,if_pos (show ((0:Int) == 0) = true from rfl),cntI hk (by omega)]
  ·obtain ⟨j1,j2⟩ := h.joined hi hs hn hN hk (by omega) e4 e8 e9
   have n0 : ¬ ((((k + 1:Nat):Int) == 0) = true) := fun q => by
    have := eq_of_beq q; omega
   have ql : (0 ≤ ((k + 1:Nat):Int)) ∧ ((k + 1:Nat):Int) < (G.length:Int) := ⟨by omega,by omega⟩
   have qr : (0 ≤ ((r:Nat):Int)) ∧ ((r:Nat):Int) < (G.length:Int) := ⟨by omega,by omega⟩
   have hl : k + 1 < G.length := by omega
   refine ⟨?_,.inl ⟨_,?_,rfl⟩⟩
   ·unfold lawBoxes_l0_pre letP
    dsimp only
    rw [c2.2]
    dsimp only [cS,Sum.elim]
    rw [Int.toNat_natCast,e1,e2,Int.toNat_natCast,Int.toNat_natCast,j2]
    exact fun _ => ⟨c2.1,qa,hk,hk,hk,fun _ => ⟨qa,hk,hk,hk,fun _ => ⟨qa,hk,hk,hk,fun _ => ⟨qa,hk,hk,hk,qa,hk,hk,hk,fun _ => ⟨qa,hk,hk,hk,fun _ => ⟨qa,hk,hk,hk,ql,hl,hl,hl,qa,hk,hk,hk,qr,e4,e4,e4,j1,fun _ => ⟨qa,hk,hk,hk⟩⟩⟩⟩⟩⟩⟩
   ·unfold lawBoxes_l0_step letV
    dsimp only
    rw [if_pos (by omega),c2.2]
    dsimp only [Sum.elim]
    rw [Int.toNat_natCast,e1,e2,Int.toNat_natCast,Int.toNat_natCast,j2,if_neg n0,if_neg (by omega),if_neg (by omega),if_neg (by omega),if_neg (by omega),if_neg (show ¬ (((0:Int) != 0) = true) by decide),if_neg (by simp),cntI hk (by omega)]
 ·subst hJ
  refine ⟨?_,_,?_,rfl⟩
  ·unfold lawBoxes_l0_pre
   dsimp only
   intro q; omega
  ·unfold lawBoxes_l0_step
   dsimp only
   rw [if_neg (by omega)]
end
theorem letVi {α β : Type} (v : α) (f : α → β) : letV v f = f v := rfl
theorem lawBoxes_law (L : List T3) : lawBoxes_pre L ∧ lawBoxes L = true := by
 obtain ⟨g1,g2⟩ := grown_law false
 by_cases n1 : ((L.length:Nat):Int) > 20
 ·unfold lawBoxes_pre lawBoxes
  rw [if_pos n1]; exact ⟨fun q => absurd n1 q,rfl⟩
 obtain ⟨s1,s2⟩ := buildT_law L (by omega)
 rcases s2 with ⟨_,e⟩ | ⟨hS,G,N,U,e,hG,ht⟩
 ·refine ⟨?_,?_⟩
  ·unfold lawBoxes_pre letP
   rw [e]
   exact fun _ => ⟨s1,fun _ => g1,fun q => absurd (by decide) q⟩
  ·unfold lawBoxes
   rw [if_neg n1,letVi,e,if_pos (by decide),letVi]
   exact g2
 ·have hf := ht.facts
  have hi : InL L (rng L.length) := fun i h => (rng_mem _ _).1 h
  have hN : ∀ k,k < G.length → (N.getD k []).length ≤ 1000 := fun k hk => by
   have := ht.small _ (getD_in (show k < N.length by rw [hf.n1]; exact hk) [])
   rw [rng_len] at this; omega
  have c0 := bx0_law hf hi hS (by rw [rng_len]; omega) hN (by omega)
  refine ⟨?_,?_⟩
  ·unfold lawBoxes_pre letP
   rw [e]
   dsimp only
   rw [c0.2]
   exact fun _ => ⟨s1,fun q => absurd q (by decide),fun _ => ⟨c0.1,g1⟩⟩
  ·unfold lawBoxes
   rw [if_neg n1,letVi,e,if_neg (show ¬ (((0:Int) != 0) = true) by decide),letVi,c0.2,Sum.elim_inr,letVi]
   exact g2
end Go.Proofs.Ytaipcbdilkcdbaa
