/- Plain laws: limewashlaw21.TreeSplit. -/
import Derived.Test.YtaipcbdilkcdbaaVi
import Derived.Test.YtaipcbdilkcdbaaUe
noncomputable section
set_option linter.unusedSectionVars false
set_option linter.unusedVariables false
set_option linter.unusedSimpArgs false
namespace Go.Proofs.Ytaipcbdilkcdbaa
open Go Go.Ev Go.Proofs
def A0 (t : T3) : Int := w64 (w64 (t.1.1 + t.2.1.1) + t.2.2.1)
def A1 (t : T3) : Int := w64 (w64 (t.1.2.1 + t.2.1.2.1) + t.2.2.2.1)
def A2 (t : T3) : Int := w64 (w64 (t.1.2.2 + t.2.1.2.2) + t.2.2.2.2)
theorem w64_nil {a : Int} (h : -16384 ≤ a ∧ a ≤ 16384) : w64 (0 + a) = a := by rw [w64_id (by omega) (by omega)]; omega
theorem mid_ax {L : List T3} (hs : SmL L) {i : Int} (h : 0 ≤ i ∧ i < (L.length:Int)) :
  mid (L,0) i = A0 (L.getD i.toNat zT) ∧ mid (L,1) i = A1 (L.getD i.toNat zT) ∧ mid (L,2) i = A2 (L.getD i.toNat zT) := by
 have hm := hs _ (getD_in (show i.toNat < L.length by omega) zT)
 have h1 := hm (L.getD i.toNat zT).1 (by simp [tp3])
 generalize ht : L.getD i.toNat zT = t at h1
 have e0 : mid (L,0) i = w64 (w64 (w64 (0 + t.1.1) + t.2.1.1) + t.2.2.1) := by rw [← ht]; rfl
 have e1 : mid (L,1) i = w64 (w64 (w64 (0 + t.1.2.1) + t.2.1.2.1) + t.2.2.2.1) := by rw [← ht]; rfl
 have e2 : mid (L,2) i = w64 (w64 (w64 (0 + t.1.2.2) + t.2.1.2.2) + t.2.2.2.2) := by rw [← ht]; rfl
 rw [e0,e1,e2,w64_nil h1.1,w64_nil h1.2.1,w64_nil h1.2.2]
 exact ⟨rfl,rfl,rfl⟩
theorem sp10_step {L : List T3} {pl a b : List Int} {i j : Nat} (fx fy fz : Bool) (hi : i < a.length) (hj : j < b.length) (hb : b.length ≤ 1000) (h1 : InL L a) (h2 : InL L b) :
  lawSplit_l10_step (L,pl) (a,(b,(fx,(fy,(fz,((i:Int),(j:Int))))))) =
   .inl (a,(b,(fx && decide (A0 (L.getD (a.getD i 0).toNat zT) ≤ A0 (L.getD (b.getD j 0).toNat zT)),(fy && decide (A1 (L.getD (a.getD i 0).toNat zT) ≤ A1 (L.getD (b.getD j 0).toNat zT)),(fz && decide (A2 (L.getD (a.getD i 0).toNat zT) ≤ A2 (L.getD (b.getD j 0).toNat zT)),((i:Int),((j + 1:Nat):Int))))))) := by
 have ka := h1 _ (getD_in hi 0)
 have kb := h2 _ (getD_in hj 0)
 unfold lawSplit_l10_step
 dsimp only
 rw [Int.toNat_natCast,Int.toNat_natCast,cntI hj (by omega),if_pos (by omega),if_neg (by omega),if_neg (by omega),if_neg (by omega),if_neg (by omega)]
 cases fx <;> cases fy <;> cases fz <;> rfl
theorem sp10_pre {L : List T3} {pl a b : List Int} {i j : Nat} (fx fy fz : Bool) (hi : i < a.length) (hj : j ≤ b.length) (h1 : InL L a) (h2 : InL L b) :
  lawSplit_l10_pre (L,pl) (a,(b,(fx,(fy,(fz,((i:Int),(j:Int))))))) := by
 have ka := h1 _ (getD_in hi 0)
 unfold lawSplit_l10_pre
 dsimp only
 intro q
 have hj : j < b.length := by omega
 have kb := h2 _ (getD_in hj 0)
 rw [Int.toNat_natCast,Int.toNat_natCast]
 have qa : (0 ≤ (i:Int)) ∧ (i:Int) < (a.length:Int) := ⟨by omega,by omega⟩
 have qb : (0 ≤ (j:Int)) ∧ (j:Int) < (b.length:Int) := ⟨by omega,by omega⟩
 have la : (a.getD i 0).toNat < L.length := by omega
 have lb : (b.getD j 0).toNat < L.length := by omega
 exact ⟨qa,hi,hi,fun _ => ⟨qa,hi,hi,fun _ => ⟨qb,hj,hj,fun _ => ⟨qb,hj,hj,fun _ => ⟨qa,hi,hi,ka,la,la,qb,hj,hj,kb,lb,lb⟩⟩⟩⟩⟩
def Flag (ax:Int) (fx fy fz : Bool) : Prop := (ax = 0 → fx = true) ∧ (ax = 1 → fy = true) ∧ (ax = 2 → fz = true)
theorem sp10_law {L : List T3} (hs : SmL L) {pl a b : List Int} {ax : Int} (hb : b.length ≤ 1000) (h1 : InL L a) (h2 : InL L b) (hab : ∀ x ∈ a,∀ y ∈ b,mid (L,ax) x ≤ mid (L,ax) y) {i : Nat} (hi : i < a.length) {fx fy fz : Bool} (hf : Flag ax fx fy fz) :
  TR (lawSplit_l10_step (L,pl)) (lawSplit_l10_pre (L,pl)) (a,(b,(fx,(fy,(fz,((i:Int),0)))))) fun r => ∃ gx gy gz,r = .inr (a,(b,(gx,(gy,(gz,(i:Int)))))) ∧ Flag ax gx gy gz := by
 refine for_loop b.length (fun j s => ∃ gx gy gz,s = (a,(b,(gx,(gy,(gz,((i:Int),(j:Int))))))) ∧ Flag ax gx gy gz) _ (fun j s hj hJ => ?_) (fun s hJ => ?_) ⟨fx,fy,fz,rfl,hf⟩
 ·obtain ⟨gx,gy,gz,rfl,hg⟩ := hJ
  refine ⟨sp10_pre gx gy gz hi (by omega) h1 h2,.inl ⟨_,sp10_step gx gy gz hi hj hb h1 h2,_,_,_,rfl,?_⟩⟩
  have ka := getD_in hi 0
  have kb := getD_in hj 0
  have hm := hab _ ka _ kb
  have ma := mid_ax hs (h1 _ ka)
  have mb := mid_ax hs (h2 _ kb)
  refine ⟨fun e => ?_,fun e => ?_,fun e => ?_⟩
  ·subst e
   rw [hg.1 rfl,← ma.1,← mb.1,decide_eq_true hm]; rfl
  ·subst e
   rw [hg.2.1 rfl,← ma.2.1,← mb.2.1,decide_eq_true hm]; rfl
  ·subst e
   rw [hg.2.2 rfl,← ma.2.2,← mb.2.2,decide_eq_true hm]; rfl
 ·obtain ⟨gx,gy,gz,rfl,hg⟩ := hJ
  refine ⟨sp10_pre gx gy gz hi (by omega) h1 h2,_,?_,gx,gy,gz,rfl,hg⟩
  unfold lawSplit_l10_step
  dsimp only
  rw [if_neg (by omega)]
theorem sp8_law {L : List T3} (hs : SmL L) {pl a b : List Int} {ax : Int} (ha : a.length ≤ 1000) (hb : b.length ≤ 1000) (h1 : InL L a) (h2 : InL L b) (hab : ∀ x ∈ a,∀ y ∈ b,mid (L,ax) x ≤ mid (L,ax) y) :
  TR (lawSplit_l8_step (L,pl)) (lawSplit_l8_pre (L,pl)) (a,(b,(true,(true,(true,0))))) fun r => ∃ gx gy gz,r = .inr (gx,(gy,gz)) ∧ Flag ax gx gy gz := by
 refine for_loop a.length (fun i s => ∃ gx gy gz,s = (a,(b,(gx,(gy,(gz,(i:Int)))))) ∧ Flag ax gx gy gz) _ (fun i s hi hJ => ?_) (fun s hJ => ?_) ⟨true,true,true,rfl,fun _ => rfl,fun _ => rfl,fun _ => rfl⟩
 ·obtain ⟨gx,gy,gz,rfl,hg⟩ := hJ
  obtain ⟨t1,kx,ky,kz,t2,t3⟩ := sp10_law (pl := pl) hs hb h1 h2 hab hi hg
  refine ⟨fun _ => t1,.inl ⟨_,?_,kx,ky,kz,rfl,t3⟩⟩
  unfold lawSplit_l8_step letV
  dsimp only
  rw [if_pos (by omega),t2]
  dsimp only [Sum.elim]
  rw [cntI hi (by omega)]
 ·obtain ⟨gx,gy,gz,rfl,hg⟩ := hJ
  refine ⟨?_,_,?_,gx,gy,gz,rfl,hg⟩
  ·unfold lawSplit_l8_pre
   dsimp only
   intro q; omega
  ·unfold lawSplit_l8_step
   dsimp only
   rw [if_neg (by omega)]
theorem count_take {l : List Int} {i : Nat} (h : i < l.length) (v:Int) : (l.take (i + 1)).count v = (l.take i).count v + if (l.getD i 0 == v) = true then 1 else 0 := by
 rw [take_snoc h 0,List.count_append,List.count_singleton]
theorem count_le (l : List Int) (i:Nat) (v:Int) : (l.take i).count v ≤ l.length := by
 have h1 := List.count_le_length (a := v) (l := l.take i)
 rw [List.length_take] at h1; omega
theorem sp2_law (L : List T3) (pl a b : List Int) {k : Nat} (hl : pl.length ≤ 1000) (hk : k < pl.length) :
  TR (lawSplit_l2_step (L,pl)) (lawSplit_l2_pre (L,pl)) (a,(b,((k:Int),(0,0)))) fun r => r = (a,(b,((k:Int),((pl.count (pl.getD k 0):Nat):Int)))) := by
 refine for_loop pl.length (fun i s => s = (a,(b,((k:Int),((((pl.take i).count (pl.getD k 0):Nat):Int),(i:Int)))))) _ (fun i s hi hJ => ?_) (fun s hJ => ?_) (by simp)
 ·subst hJ
  have q := count_take hi (pl.getD k 0)
  have q2 := count_le pl i (pl.getD k 0)
  refine ⟨?_,.inl ⟨_,?_,rfl⟩⟩
  ·unfold lawSplit_l2_pre
   dsimp only
   rw [Int.toNat_natCast,Int.toNat_natCast]
   exact fun _ => ⟨⟨by omega,by omega⟩,hi,hi,⟨by omega,by omega⟩,hk,hk⟩
  ·unfold lawSplit_l2_step
   dsimp only
   rw [if_pos (by omega),Int.toNat_natCast,Int.toNat_natCast,cntI hi (by omega),q]
   split
   ·rw [w64_id (by omega) (by omega)]; rfl
   ·rfl
 ·subst hJ
  refine ⟨?_,_,?_,rfl⟩
  ·unfold lawSplit_l2_pre
   dsimp only
   intro q; omega
  ·unfold lawSplit_l2_step
   dsimp only
   rw [if_neg (by omega),List.take_length]
theorem sp4_law (L : List T3) (pl a b : List Int) {k n : Nat} (hl : a.length ≤ 1000) (hk : k < pl.length) (hn : n ≤ 1000) :
  TR (lawSplit_l4_step (L,pl)) (lawSplit_l4_pre (L,pl)) (a,(b,((k:Int),((n:Int),0)))) fun r => r = (a,(b,((k:Int),(n:Int) - ((a.count (pl.getD k 0):Nat):Int)))) := by
 refine for_loop a.length (fun i s => s = (a,(b,((k:Int),((n:Int) - (((a.take i).count (pl.getD k 0):Nat):Int),(i:Int)))))) _ (fun i s hi hJ => ?_) (fun s hJ => ?_) (by simp)
 ·subst hJ
  have q := count_take hi (pl.getD k 0)
  have q2 := count_le a i (pl.getD k 0)
  refine ⟨?_,.inl ⟨_,?_,rfl⟩⟩
  ·unfold lawSplit_l4_pre
   dsimp only
   rw [Int.toNat_natCast,Int.toNat_natCast]
   exact fun _ => ⟨⟨by omega,by omega⟩,hi,hi,⟨by omega,by omega⟩,hk,hk⟩
  ·unfold lawSplit_l4_step
   dsimp only
   rw [if_pos (by omega),Int.toNat_natCast,Int.toNat_natCast,cntI hi (by omega),q]
   split
   ·rw [w64_id (by omega) (by omega)]
    congr 5; omega
   ·rfl
 ·subst hJ
  refine ⟨?_,_,?_,rfl⟩
  ·unfold lawSplit_l4_pre
   dsimp only
   intro q; omega
  ·unfold lawSplit_l4_step
   dsimp only
   rw [if_neg (by omega),List.take_length]
theorem sp6_law (L : List T3) (pl a b : List Int) {k : Nat} {n : Int} (hl : b.length ≤ 1000) (hk : k < pl.length) (hn : -2000 ≤ n ∧ n ≤ 2000) :
  TR (lawSplit_l6_step (L,pl)) (lawSplit_l6_pre (L,pl)) (a,(b,((k:Int),(n,0)))) fun r => r = (a,(b,((k:Int),n - ((b.count (pl.getD k 0):Nat):Int)))) := by
 refine for_loop b.length (fun i s => s = (a,(b,((k:Int),(n - (((b.take i).count (pl.getD k 0):Nat):Int),(i:Int)))))) _ (fun i s hi hJ => ?_) (fun s hJ => ?_) (by simp)
 ·subst hJ
  have q := count_take hi (pl.getD k 0)
  have q2 := count_le b i (pl.getD k 0)
  refine ⟨?_,.inl ⟨_,?_,rfl⟩⟩
  ·unfold lawSplit_l6_pre
   dsimp only
   rw [Int.toNat_natCast,Int.toNat_natCast]
   exact fun _ => ⟨⟨by omega,by omega⟩,hi,hi,⟨by omega,by omega⟩,hk,hk⟩
  ·unfold lawSplit_l6_step
   dsimp only
   rw [if_pos (by omega),Int.toNat_natCast,Int.toNat_natCast,cntI hi (by omega),q]
   split
   ·rw [w64_id (by omega) (by omega)]
    congr 5; omega
   ·rfl
 ·subst hJ
  refine ⟨?_,_,?_,rfl⟩
  ·unfold lawSplit_l6_pre
   dsimp only
   intro q; omega
  ·unfold lawSplit_l6_step
   dsimp only
   rw [if_neg (by omega),List.take_length]
theorem sp0_law (L : List T3) (pl a b : List Int) (hl : pl.length ≤ 1000) (ha : a.length ≤ 1000) (hb : b.length ≤ 1000) (hp : (a ++ b).Perm pl) :
  TR (lawSplit_l0_step (L,pl)) (lawSplit_l0_pre (L,pl)) (a,(b,0)) fun r => r = .inr (a,b) := by
 refine for_loop pl.length (fun k s => s = (a,(b,(k:Int)))) _ (fun k s hk hJ => ?_) (fun s hJ => ?_) rfl
 ·subst hJ
  have c2 := sp2_law L pl a b hl hk
  have c4 := sp4_law L pl a b (n := pl.count (pl.getD k 0)) ha hk (by have := List.count_le_length (a := pl.getD k 0) (l := pl); omega)
  have c0 := hp.count_eq (pl.getD k 0)
  rw [List.count_append] at c0
  have c6 := sp6_law L pl a b (n := ((pl.count (pl.getD k 0):Nat):Int) - ((a.count (pl.getD k 0):Nat):Int)) hb hk (by
   have := List.count_le_length (a := pl.getD k 0) (l := pl)
   omega)
  refine ⟨?_,.inl ⟨_,?_,rfl⟩⟩
  ·unfold lawSplit_l0_pre letP
   dsimp only
   rw [c2.2]
   dsimp only
   rw [c4.2]
   exact fun _ => ⟨c2.1,c4.1,c6.1⟩
  ·unfold lawSplit_l0_step letV
   dsimp only
   rw [if_pos (by omega),c2.2]
   dsimp only
   rw [c4.2]
   dsimp only
   rw [c6.2]
   dsimp only
   rw [if_neg (fun q => by have := bne_iff_ne.1 q; omega),cntI hk (by omega)]
 ·subst hJ
  refine ⟨?_,_,?_,rfl⟩
  ·unfold lawSplit_l0_pre
   dsimp only
   intro q; omega
  ·unfold lawSplit_l0_step
   dsimp only
   rw [if_neg (by omega)]
theorem lawSplit_law (x : List T3 × List Int) : lawSplit_pre x ∧ lawSplit x = true := by
 obtain ⟨L,pl⟩ := x
 obtain ⟨g1,g2⟩ := grown_law false
 unfold lawSplit_pre lawSplit
 dsimp only [letP,letV]
 by_cases n1 : ((L.length:Nat):Int) > 20
 ·rw [if_pos n1]; exact ⟨fun q => absurd n1 q,rfl⟩
 rw [if_neg n1]
 by_cases n2 : ((pl.length:Nat):Int) > 20
 ·rw [if_pos n2]; exact ⟨fun _ q => absurd n2 q,rfl⟩
 rw [if_neg n2]
 obtain ⟨s1,s2⟩ := splitN_law (L := L) (pl := pl) (by omega) (by omega)
 rcases s2 with ⟨_,e⟩ | ⟨_,_,e⟩ | ⟨hS,h2,hi,e⟩
 ·rw [e,g2]
  exact ⟨fun _ _ => ⟨s1,fun _ => g1,fun q => absurd (by decide) q⟩,rfl⟩
 ·rw [e,g2]
  exact ⟨fun _ _ => ⟨s1,fun _ => g1,fun q => absurd (by decide) q⟩,rfl⟩
 ·have hperm : ((srtd L pl).take (pl.length / 2) ++ (srtd L pl).drop (pl.length / 2)).Perm pl := by rw [List.take_append_drop]; exact srtd_perm L pl
  have hlen := (srtd_perm L pl).length_eq
  have l1 : ((srtd L pl).take (pl.length / 2)).length = pl.length / 2 := by rw [List.length_take,hlen]; omega
  have l2 : ((srtd L pl).drop (pl.length / 2)).length = pl.length - pl.length / 2 := by rw [List.length_drop,hlen]
  have hpw : ((srtd L pl).take (pl.length / 2) ++ (srtd L pl).drop (pl.length / 2)).Pairwise fun x y => ltM (L,axs L pl) y x = false := by rw [List.take_append_drop]; exact srt_sorted _ _
  have hab := (List.pairwise_append.1 hpw).2.2
  rw [e]
  generalize (srtd L pl).take (pl.length / 2) = a at *
  generalize (srtd L pl).drop (pl.length / 2) = b at *
  have ia : InL L a := fun i h => hi i (hperm.mem_iff.1 (List.mem_append.2 (.inl h)))
  have ib : InL L b := fun i h => hi i (hperm.mem_iff.1 (List.mem_append.2 (.inr h)))
  have hab : ∀ x ∈ a,∀ y ∈ b,mid (L,axs L pl) x ≤ mid (L,axs L pl) y := fun x hx y hy => by
   have := hab x hx y hy
   rw [ltM_f] at this; omega
  have c0 := sp0_law L pl a b (by omega) (by omega) (by omega) hperm
  obtain ⟨c8,gx,gy,gz,c9,hg⟩ := sp8_law (pl := pl) hS (by omega) (by omega) ia ib hab
  obtain ⟨r1,r2,r3⟩ := longest_law (boxF (L,pl))
  have r2 : 0 ≤ axs L pl := r2
  have r3 : axs L pl < 3 := r3
  have w1 : w64 (((a.length:Nat):Int) + ((b.length:Nat):Int)) = ((pl.length:Nat):Int) := by rw [w64_id (by omega) (by omega)]; omega
  have w2 : w64 (((b.length:Nat):Int) - ((a.length:Nat):Int)) = ((b.length:Nat):Int) - ((a.length:Nat):Int) := w64_id (by omega) (by omega)
  dsimp only
  rw [w1,w2,c0.2]
  dsimp only [cS,Sum.elim]
  rw [c9,g2]
  dsimp only [cS,Sum.elim]
  refine ⟨fun _ _ => ⟨s1,fun q => absurd q (by decide),fun _ _ _ _ => ⟨c0.1,c8,g1⟩⟩,?_⟩
  rw [if_neg (by decide),if_neg (by simp),if_neg (by omega),if_neg (by omega),if_pos rfl]
  have hx : axs L pl = 0 ∨ axs L pl = 1 ∨ axs L pl = 2 := by omega
  rcases hx with hx | hx | hx
  ·rw [hg.1 hx]; rfl
  ·rw [hg.2.1 hx]; cases gx <;> rfl
  ·rw [hg.2.2 hx]; cases gx <;> cases gy <;> rfl
end Go.Proofs.Ytaipcbdilkcdbaa
