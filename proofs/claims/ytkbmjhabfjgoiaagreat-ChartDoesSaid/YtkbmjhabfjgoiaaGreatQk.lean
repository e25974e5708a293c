/- Plain laws: the references of layers 4, 9 and 10 say what the program says. -/
import Derived.Test.YtkbmjhabfjgoiaaGreatQj
import Derived.Test.YtkbmjhabfjgoiaaGreatCh
noncomputable section
set_option linter.unusedSectionVars false
set_option linter.unusedVariables false
set_option linter.unusedSimpArgs false
namespace Go.Proofs.YtkbmjhabfjgoiaaGreat
open Go Go.Ev Go.Proofs
theorem maxI_le (a b:Int) : a ≤ maxI a b ∧ b ≤ maxI a b ∧ (maxI a b = a ∨ maxI a b = b) := by unfold maxI; split <;> omega
theorem ite_dec {p q : Prop} [Decidable p] [Decidable q] {b : Bool} (h : b = decide q) : (if p then b else false) = decide (p ∧ q) := by
 subst h
 by_cases hp : p <;> simp [hp]
theorem r4near_law (n:Int) : r4near n = decide (-1048576 ≤ n ∧ n ≤ 1048576) := by
 unfold r4near; exact ite_dec rfl
theorem r4is2_law (p : P2) : r4is2 p = decide (Is20 p) := by
 unfold r4is2
 dsimp only [letV]
 rw [r4near_law,r4near_law,Bool.eq_iff_iff]
 simp
theorem r4is3_law (p : P3) : r4is3 p = decide (Is30 p) := by
 unfold r4is3
 dsimp only [letV]
 rw [r4near_law,r4near_law,r4near_law,Bool.eq_iff_iff]
 simp
theorem r4all2_law (x : List P2) (hl : x.length < 4611686018427387904) : r4all2_pre x ∧ r4all2 x = decide (∀ p ∈ x,Is20 p) := by
 rw [← notAny (bad := fun p => !decide (Is20 p)) (fun _ => rfl)]
 refine all_loop x hl _ _ _ (fun i hi => ?_) (fun i v hv => ?_) ?_
 ·unfold r4all2_l0_pre
  intro h
  simp only [Int.toNat_natCast]
  exact ⟨by omega,by omega,by omega⟩
 ·have hlt := lt_of_get hv
  unfold r4all2_l0_step
  rw [if_pos (by omega),Int.toNat_natCast,getD_of hv]
  unfold letV
  rw [r4is2_law]
 ·unfold r4all2_l0_step
  rw [if_neg (by omega)]
theorem r4all3_law (x : List P3) (hl : x.length < 4611686018427387904) : r4all3_pre x ∧ r4all3 x = decide (∀ p ∈ x,Is30 p) := by
 rw [← notAny (bad := fun p => !decide (Is30 p)) (fun _ => rfl)]
 refine all_loop x hl _ _ _ (fun i hi => ?_) (fun i v hv => ?_) ?_
 ·unfold r4all3_l0_pre
  intro h
  simp only [Int.toNat_natCast]
  exact ⟨by omega,by omega,by omega⟩
 ·have hlt := lt_of_get hv
  unfold r4all3_l0_step
  rw [if_pos (by omega),Int.toNat_natCast,getD_of hv]
  unfold letV
  rw [r4is3_law]
 ·unfold r4all3_l0_step
  rw [if_neg (by omega)]
theorem r4sub2_law {a b : P2} (ha : Sm a) (hb : Sm b) : r4sub2 (a,b) = (a.1 - b.1,a.2 - b.2) := by
 unfold r4sub2
 dsimp only [letV]
 rw [r4is2_law,r4is2_law,decide_eq_true (show Is20 a from ⟨by omega,by omega⟩),decide_eq_true (show Is20 b from ⟨by omega,by omega⟩),if_neg (by decide),if_neg (by decide),w64_id (by omega) (by omega),w64_id (by omega) (by omega)]
theorem r4sub3_law {a b : P3} (ha : Sm3 a) (hb : Sm3 b) : r4sub3 (a,b) = Sub3 a b := by
 unfold r4sub3
 dsimp only [letV]
 rw [r4is3_law,r4is3_law,decide_eq_true (show Is30 a from ⟨by omega,by omega,by omega⟩),decide_eq_true (show Is30 b from ⟨by omega,by omega,by omega⟩),if_neg (by decide),if_neg (by decide),w64_id (by omega) (by omega),w64_id (by omega) (by omega),w64_id (by omega) (by omega)]
 rfl
theorem r4cross2_law {a b c : P2} (ha : Sm a) (hb : Sm b) (hc : Sm c) : r4cross2 ((b.1 - a.1,b.2 - a.2),(c.1 - a.1,c.2 - a.2)) = (Det a b c,0) := by
 unfold r4cross2
 dsimp only [letV]
 rw [r4is2_law,r4is2_law,decide_eq_true (show Is20 (b.1 - a.1,b.2 - a.2) from ⟨by dsimp only; omega,by dsimp only; omega⟩),decide_eq_true (show Is20 (c.1 - a.1,c.2 - a.2) from ⟨by dsimp only; omega,by dsimp only; omega⟩),if_neg (by decide),if_neg (by decide)]
 have m1 := mulb (a := b.1 - a.1) (b := c.2 - a.2) (A := 8192) (B := 8192) (by omega) (by omega) (by omega) (by omega)
 have m2 := mulb (a := b.2 - a.2) (b := c.1 - a.1) (A := 8192) (B := 8192) (by omega) (by omega) (by omega) (by omega)
 rw [w64_id (n := (b.1 - a.1) * (c.2 - a.2)) (by omega) (by omega),w64_id (n := (b.2 - a.2) * (c.1 - a.1)) (by omega) (by omega),w64_id (by omega) (by omega)]
 rfl
theorem r4cross3_law {u v : P3} (hu : In3 32768 u) (hv : In3 32768 v) : r4cross3 (u,v) = (Crs u v,0) := by
 unfold r4cross3
 dsimp only [letV]
 rw [r4is3_law,r4is3_law,decide_eq_true (show Is30 u from ⟨by omega,by omega,by omega⟩),decide_eq_true (show Is30 v from ⟨by omega,by omega,by omega⟩),if_neg (by decide),if_neg (by decide)]
 obtain ⟨h1,h2,h3,h4,h5,h6⟩ := crs_in (B := 32768) (by omega) hu hv
 rw [w64_id (n := u.2.1 * v.2.2) (by omega) (by omega),w64_id (n := u.2.2 * v.2.1) (by omega) (by omega),w64_id (n := u.2.2 * v.1) (by omega) (by omega),w64_id (n := u.1 * v.2.2) (by omega) (by omega),w64_id (n := u.1 * v.2.1) (by omega) (by omega),w64_id (n := u.2.1 * v.1) (by omega) (by omega)]
 rw [w64_id (by omega) (by omega),w64_id (by omega) (by omega),w64_id (by omega) (by omega)]
 rfl
theorem r4under_law {x : Int} (h : x ≤ 4611686018427387904) : r4under x = Lw x := by
 unfold r4under Lw
 split
 ·rw [w64_id (by omega) (by omega)]; omega
 ·rfl
theorem r4axis_law {n : P3} (h : In3 4611686018427387904 n) : r4axis n = Ax n := by
 unfold r4axis
 dsimp only [letV]
 rw [r4under_law h.1.2,r4under_law h.2.1.2,r4under_law h.2.2.2]
 unfold Ax
 generalize Lw n.1 = x
 generalize Lw n.2.1 = y
 generalize Lw n.2.2 = z
 split <;> split <;> (try split) <;> (try split) <;> (try split) <;> omega
theorem r4drop_law (p : P3) (ax:Int) : r4drop (p,ax) = if 0 ≤ ax ∧ ax < 3 then (Dr p ax,0) else ((0,0),1) := by
 unfold r4drop
 dsimp only
 by_cases h : 0 ≤ ax ∧ ax < 3
 ·have : ax = 0 ∨ ax = 1 ∨ ax = 2 := by omega
  rcases this with rfl | rfl | rfl <;> rfl
 ·rw [if_neg h,if_neg (by simp only [beq_iff_eq]; omega),if_neg (by simp only [beq_iff_eq]; omega),if_neg (by simp only [beq_iff_eq]; omega)]
theorem r9small2_law (p : P2) : r9small2 p = decide (Sm p) := by
 unfold r9small2
 rw [ite_dec (p := p.2 ≥ -4096) rfl,ite_dec (p := p.1 ≤ 4096) rfl,ite_dec (p := p.1 ≥ -4096) rfl,Bool.eq_iff_iff,decide_eq_true_iff,decide_eq_true_iff]
 omega
theorem r9small3_law (p : P3) : r9small3 p = decide (Sm3 p) := by
 unfold r9small3
 rw [ite_dec (p := p.2.2 ≥ -16384) rfl,ite_dec (p := p.2.1 ≤ 16384) rfl,ite_dec (p := p.2.1 ≥ -16384) rfl,ite_dec (p := p.1 ≤ 16384) rfl,ite_dec (p := p.1 ≥ -16384) rfl,Bool.eq_iff_iff,decide_eq_true_iff,decide_eq_true_iff]
 omega
theorem three_if {α : Type} {p q r : Prop} [Decidable p] [Decidable q] [Decidable r] {A B : α} : (if (!decide p) = true then A else if (!decide q) = true then A else if (!decide r) = true then A else B) = if p ∧ q ∧ r then B else A := by
 by_cases hp : p <;> by_cases hq : q <;> by_cases hr : r <;> simp [hp,hq,hr]
theorem r9area_law (a b c : P2) : r9area (a,(b,c)) = if Sm a ∧ Sm b ∧ Sm c then (Det a b c,0) else (0,5) := by
 unfold r9area
 dsimp only [letV]
 rw [r9small2_law,r9small2_law,r9small2_law,three_if]
 by_cases h : Sm a ∧ Sm b ∧ Sm c
 ·rw [if_pos h,if_pos h,r4sub2_law h.2.1 h.1,r4sub2_law h.2.2 h.1,r4cross2_law h.1 h.2.1 h.2.2]
 ·rw [if_neg h,if_neg h]
theorem r9sgn_law (n:Int) : r9sgn n = sg n := rfl
theorem r9side_law (a b c : P2) : r9side (a,(b,c)) = if Sm a ∧ Sm b ∧ Sm c then (sg (Det a b c),0) else (0,5) := by
 unfold r9side
 dsimp only [letV]
 rw [r9area_law,r9sgn_law]
 by_cases h : Sm a ∧ Sm b ∧ Sm c
 ·rw [if_pos h,if_pos h]
 ·rw [if_neg h,if_neg h]; rfl
theorem r9normal_law (a b c : P3) : r9normal (a,(b,c)) = if Sm3 a ∧ Sm3 b ∧ Sm3 c then (Nrm a b c,0) else ((0,(0,0)),5) := by
 unfold r9normal
 dsimp only [letV]
 rw [r9small3_law,r9small3_law,r9small3_law,three_if]
 by_cases h : Sm3 a ∧ Sm3 b ∧ Sm3 c
 ·rw [if_pos h,if_pos h,r4sub3_law h.2.1 h.1,r4sub3_law h.2.2 h.1,r4cross3_law (sub3_in h.2.1 h.1) (sub3_in h.2.2 h.1)]
  rfl
 ·rw [if_neg h,if_neg h]
theorem cp_list0 (n : P3) {ax : Int} (h : 0 ≤ ax ∧ ax < 3) : List.getD [n.1,n.2.1,n.2.2] (0 + ax.toNat * 1) 0 = Cp n ax := by
 have : ax = 0 ∨ ax = 1 ∨ ax = 2 := by omega
 rcases this with rfl | rfl | rfl <;> rfl
theorem r9facing_law (a b c : P3) : r9facing_pre (a,(b,c)) ∧ r9facing (a,(b,c)) = sfacing (a,(b,c)) := by
 rw [sfacing_law]
 unfold r9facing r9facing_pre
 dsimp only [letV,letP]
 rw [r9normal_law]
 by_cases h : Sm3 a ∧ Sm3 b ∧ Sm3 c
 ·rw [if_pos h,if_pos h,if_neg (by simp)]
  have hn := nrm_in h.1 h.2.1 h.2.2
  have he : ((((Nrm a b c).1 == (0:Int)) && (((Nrm a b c).2.1 == (0:Int)) && (((Nrm a b c).2.2 == (0:Int)) && true))) = true) ↔ Nrm a b c = (0,(0,0)) := by
   generalize Nrm a b c = n
   obtain ⟨x,y,z⟩ := n
   simp
  have hax := ax_in (Nrm a b c)
  dsimp only
  rw [r4axis_law (n := Nrm a b c) ⟨by omega,by omega,by omega⟩]
  refine ⟨fun _ _ => ⟨hax,by omega⟩,?_⟩
  by_cases hz : Nrm a b c = (0,(0,0))
  ·rw [if_pos (he.2 hz),if_pos hz]
  ·rw [if_neg (fun q => hz (he.1 q)),if_neg hz,cp_list0 _ hax,r9sgn_law]
 ·rw [if_neg h,if_neg h]
  exact ⟨fun q => absurd (by decide) q,rfl⟩
theorem r10right_law (a b c : P2) : r10right (a,(b,c)) = decide (Right a b c) := by
 rw [← mright_law a b c]
 unfold r10right mright
 dsimp only [letV]
 rw [r9area_law,(sarea_law a b c).2]
theorem sides_tm (t : T2) (p : P2) : r10sides_pre (t,(0,p)) ∧ r10sides_pre (t,(1,p)) ∧ r10sides_pre (t,(2,p)) := by
 unfold r10sides_pre
 dsimp only [letP]
 refine ⟨⟨by decide,by decide,by decide,by decide,by decide,by decide,by decide,by decide,by decide,by decide⟩,⟨by decide,by decide,by decide,by decide,by decide,by decide,by decide,by decide,by decide,by decide⟩,⟨by decide,by decide,by decide,by decide,by decide,by decide,by decide,by decide,by decide,by decide⟩⟩
theorem sides_law (t : T2) (p : P2) (ht : Rt t) (hp : Sm p) : r10sides (t,(0,p)) = Sd t.1 t.2.1 t.2.2 p ∧ r10sides (t,(1,p)) = Sd t.2.1 t.2.2 t.1 p ∧ r10sides (t,(2,p)) = Sd t.2.2 t.1 t.2.1 p := by
 have key : ∀ a b c : P2,Right a b c → w64 ((r9side (a,(b,c))).1 * (r9side (a,(b,p))).1) = Sd a b c p := fun a b c h => by
  rw [r9side_law,if_pos h.1,r9side_law,if_pos ⟨h.1.1,h.1.2.1,hp⟩]
  dsimp only
  have := sd_in a b c p
  unfold Sd at this ⊢
  rw [w64_id (by omega) (by omega)]
 have e0 : r10sides (t,(0,p)) = w64 ((r9side (t.1,(t.2.1,t.2.2))).1 * (r9side (t.1,(t.2.1,p))).1) := by kernel_rfl
 have e1 : r10sides (t,(1,p)) = w64 ((r9side (t.2.1,(t.2.2,t.1))).1 * (r9side (t.2.1,(t.2.2,p))).1) := by kernel_rfl
 have e2 : r10sides (t,(2,p)) = w64 ((r9side (t.2.2,(t.1,t.2.1))).1 * (r9side (t.2.2,(t.1,p))).1) := by kernel_rfl
 have r1 : Right t.2.1 t.2.2 t.1 := ⟨⟨ht.1.2.1,ht.1.2.2,ht.1.1⟩,by rw [det_turn t.1]; exact ht.2⟩
 have r2 : Right t.2.2 t.1 t.2.1 := ⟨⟨ht.1.2.2,ht.1.1,ht.1.2.1⟩,by rw [det_turn t.2.1,det_turn t.1]; exact ht.2⟩
 exact ⟨e0.trans (key _ _ _ ht),e1.trans (key _ _ _ r1),e2.trans (key _ _ _ r2)⟩
theorem greatest_law (t : T2) (e:Int) (l : List P2) (m : P2 → Int) (hl : l.length < 4611686018427387904) (hp : ∀ p,r10sides_pre (t,(e,p))) (hm : ∀ p ∈ l,r10sides (t,(e,p)) = m p) :
  r10greatest_pre (t,(e,l)) ∧ (r10greatest (t,(e,l)) ≤ 0 ↔ Bel m 1 l = true) := by
 obtain ⟨h1,h2⟩ := loop_inv (step := r10greatest_l0_step (t,(e,l))) (pre := r10greatest_l0_pre (t,(e,l))) (fun s => ∃ (g:Int) (i:Nat),s = (g,(i:Int)) ∧ i ≤ l.length ∧ (g ≤ 0 ↔ Bel m 1 (l.take i) = true)) (fun s => l.length - s.2.toNat)
  (fun r => r ≤ 0 ↔ Bel m 1 l = true) (fun s ⟨g,i,e',hi,hg⟩ => by
   subst e'
   unfold r10greatest_l0_step r10greatest_l0_pre
   dsimp only [letV]
   simp only [Int.toNat_natCast]
   refine ⟨fun q => ⟨by omega,by omega,by omega,hp _⟩,?_⟩
   by_cases hlt : i < l.length
   ·rw [if_pos (by omega)]
    refine ⟨fun s' q => ?_,fun r q => (by cases q)⟩
    cases q
    rw [cnt hlt hl]
    refine ⟨⟨_,i + 1,rfl,hlt,?_⟩,by simp only [Int.toNat_natCast]; omega⟩
    have hg2 : l.getD i (0,0) = l[i] := by rw [List.getD_eq_getElem?_getD,List.getElem?_eq_getElem hlt]; rfl
    rw [hg2,hm _ (List.getElem_mem hlt),List.take_succ_eq_append_getElem hlt]
    have e2 : Bel m 1 (l.take i ++ [l[i]]) = (Bel m 1 (l.take i) && decide (m l[i] < 1)) := by unfold Bel; rw [List.all_append,List.all_cons,List.all_nil,Bool.and_true]
    rw [e2,Bool.and_eq_true,← hg,decide_eq_true_iff]
    have := maxI_le g (m l[i])
    omega
   ·rw [if_neg (by omega)]
    refine ⟨fun s' q => (by cases q),fun r q => ?_⟩
    cases q
    have : i = l.length := by omega
    subst this
    rwa [List.take_length] at hg) (-1,0) ⟨-1,0,rfl,Nat.zero_le _,by constructor <;> intro _ <;> first | rfl | decide⟩
 exact ⟨h1,h2⟩
theorem parted_law {t : T2} (ht : Rt t) (l : List P2) (hs : ∀ p ∈ l,Sm p) (hl : l.length < 4611686018427387904) : r10parted_pre (t,(l,true)) ∧ r10parted (t,(l,true)) = Out1 t.1 t.2.1 t.2.2 1 l := by
 obtain ⟨p0,g0⟩ := greatest_law t 0 l (Sd t.1 t.2.1 t.2.2) hl (fun p => (sides_tm t p).1) fun p hp => (sides_law t p ht (hs p hp)).1
 obtain ⟨p1,g1⟩ := greatest_law t 1 l (Sd t.2.1 t.2.2 t.1) hl (fun p => (sides_tm t p).2.1) fun p hp => (sides_law t p ht (hs p hp)).2.1
 obtain ⟨p2,g2⟩ := greatest_law t 2 l (Sd t.2.2 t.1 t.2.1) hl (fun p => (sides_tm t p).2.2) fun p hp => (sides_law t p ht (hs p hp)).2.2
 have two : ∀ {α : Type} (n:Int) (A B : α),(if n < 0 then A else if (n == 0) = true then A else B) = if n ≤ 0 then A else B := fun n A B => by
  by_cases h1 : n < 0
  ·rw [if_pos h1,if_pos (by omega)]
  ·by_cases h2 : n = 0
   ·rw [if_neg h1,if_pos (by simpa using h2),if_pos (by omega)]
   ·rw [if_neg h1,if_neg (by simpa using h2),if_neg (by omega)]
 unfold r10parted_pre r10parted Out1
 dsimp only [letP,letV]
 rw [if_pos rfl,if_pos rfl,if_pos rfl,two,two,two]
 refine ⟨⟨p0,fun _ => ⟨fun _ _ => ⟨p1,fun _ => ⟨fun _ _ => p2,fun q => absurd rfl q⟩⟩,fun q => absurd rfl q⟩⟩,?_⟩
 generalize r10greatest (t,(0,l)) = n0 at *
 generalize r10greatest (t,(1,l)) = n1 at *
 generalize r10greatest (t,(2,l)) = n2 at *
 by_cases h0 : n0 ≤ 0
 ·rw [if_pos h0,g0.1 h0]; rfl
 ·rw [if_neg h0,Bool.eq_false_iff.2 fun q => h0 (g0.2 q)]
  by_cases h1 : n1 ≤ 0
  ·rw [if_pos h1,g1.1 h1]; rfl
  ·rw [if_neg h1,Bool.eq_false_iff.2 fun q => h1 (g1.2 q)]
   by_cases h2 : n2 ≤ 0
   ·rw [if_pos h2,g2.1 h2]; rfl
   ·rw [if_neg h2,Bool.eq_false_iff.2 fun q => h2 (g2.2 q)]; rfl
theorem r10overlap_law (t u : T2) : r10overlap_pre (t,u) ∧ r10overlap (t,u) = moverlap (t,u) := by
 rw [moverlap_law]
 unfold r10overlap_pre r10overlap
 dsimp only [letV,letP]
 rw [show r10right t = decide (Rt t) from r10right_law t.1 t.2.1 t.2.2,show r10right u = decide (Rt u) from r10right_law u.1 u.2.1 u.2.2]
 by_cases ht : Rt t
 ·by_cases hu : Rt u
  ·have h1 := parted_law ht (tp u) (tp_sm hu) (by simp [tp])
   have h2 := parted_law hu (tp t) (tp_sm ht) (by simp [tp])
   rw [decide_eq_true ht,decide_eq_true hu,if_neg (by decide),if_neg (by decide),if_pos (show Rt t ∧ Rt u from ⟨ht,hu⟩)]
   refine ⟨fun _ _ => ⟨h1.1,fun _ => h2.1⟩,?_⟩
   show (if (!r10parted (t,(tp u,true))) = true then (!r10parted (u,(tp t,true)),(0:Int)) else (false,0)) = _
   rw [h1.2,h2.2]
   unfold Ov
   cases Out1 t.1 t.2.1 t.2.2 1 (tp u) <;> rfl
  ·rw [decide_eq_true ht,decide_eq_false hu,if_neg (by decide),if_pos (by decide),if_neg (fun q => hu q.2)]
   exact ⟨fun _ q => absurd rfl q,rfl⟩
 ·rw [decide_eq_false ht,if_pos (by decide),if_neg (fun q => ht q.1)]
  exact ⟨fun q => absurd rfl q,rfl⟩
end Go.Proofs.YtkbmjhabfjgoiaaGreat
