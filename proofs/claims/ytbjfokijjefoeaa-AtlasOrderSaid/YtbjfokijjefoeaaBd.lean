/- Plain laws: atlases: what is built; what is right. -/
import Derived.Test.YtbjfokijjefoeaaBc
namespace Go.Proofs.Ytbjfokijjefoeaa
open Go Go.Ev Go.Proofs
set_option linter.unusedVariables false
set_option linter.unusedSimpArgs false
abbrev Atl : Type := Int × (Int × (Int × (Pts × List Rct)))
abbrev zA : Atl := (0,(0,(0,([],[]))))
def siz (p : Ptc) (pad:Int) : Int × Int := (p.2.2.1 + 2 * pad,p.2.2.2 + 2 * pad)
theorem sz_in (n:Int) : 0 ≤ Sz n ∧ Sz n ≤ 257 := by unfold Sz; split <;> (try split) <;> omega
theorem IsPatch.dims {p : Ptc} (h : IsPatch p) : (0 ≤ p.2.2.1 ∧ p.2.2.1 ≤ 257) ∧ 0 ≤ p.2.2.2 ∧ p.2.2.2 ≤ 257 := by
 rw [h.w,h.h]; exact ⟨sz_in _,sz_in _⟩
theorem sizeM_law {p : Ptc} (h : IsPatch p) {pad : Int} (hp : 1 ≤ pad ∧ pad ≤ 8) : sizeM (p,pad) = siz p pad := by
 have := h.dims
 unfold sizeM siz
 dsimp only
 rw [w64_id (n := 2 * pad) (by omega) (by omega),w64_id (n := p.2.2.1 + 2 * pad) (by omega) (by omega),w64_id (n := p.2.2.2 + 2 * pad) (by omega) (by omega)]
theorem siz_in1 {p : Ptc} (h : IsPatch p) {pad : Int} (hp : 1 ≤ pad ∧ pad ≤ 8) (h1 : (siz p pad).1 ≤ 256) (h2 : (siz p pad).2 ≤ 256) : In1 (siz p pad).1 ∧ In1 (siz p pad).2 := by
 have := h.dims
 unfold siz In1 at *
 dsimp only at *
 omega
noncomputable def szs (l : Pts) (pad:Int) : List (Int × Int) := (Ord l).map fun i => siz (l.getD i.toNat zP) pad
theorem szs_len (l : Pts) (pad:Int) : (szs l pad).length = l.length := by unfold szs; rw [List.length_map,ord_len]
theorem ord_get (l : Pts) {k : Nat} (hk : k < l.length) : 0 ≤ (Ord l).getD k 0 ∧ (Ord l).getD k 0 < (l.length:Int) := (ord_mem l _).1 (getD_in (by rw [ord_len]; exact hk) 0)
theorem szs_get (l : Pts) (pad:Int) {k : Nat} (hk : k < l.length) : (szs l pad).getD k (0,0) = siz (l.getD ((Ord l).getD k 0).toNat zP) pad := by
 unfold szs
 have h : k < (Ord l).length := by rw [ord_len]; exact hk
 rw [List.getD_eq_getElem?_getD,List.getElem?_map,List.getElem?_eq_getElem h,List.getD_eq_getElem?_getD (l := Ord l),List.getElem?_eq_getElem h]; rfl
theorem nodup_getD {l : List Int} (h : l.Nodup) {i j : Nat} (hi : i < l.length) (hj : j < l.length) (e : l.getD i 0 = l.getD j 0) : i = j := by
 rw [List.getD_eq_getElem?_getD,List.getD_eq_getElem?_getD,List.getElem?_eq_getElem hi,List.getElem?_eq_getElem hj] at e
 exact (List.getElem_inj h).1 e
def Fits (l : List (Int × Int)) : Prop := ∀ p ∈ l,p.1 ≤ 256 ∧ p.2 ≤ 256
theorem szs_in1 {l : Pts} (hl : Rgt l) {pad : Int} (hp : 1 ≤ pad ∧ pad ≤ 8) (hf : Fits (szs l pad)) : ∀ p ∈ szs l pad,In1 p.1 ∧ In1 p.2 := fun p hp' => by
 obtain ⟨h1,h2⟩ := hf p hp'
 unfold szs at hp'
 obtain ⟨i,hi,rfl⟩ := List.mem_map.1 hp'
 have := (ord_mem l i).1 hi
 exact siz_in1 (hl.all _ (getD_in (by omega) _)) hp h1 h2
section
variable (w h pad:Int) (l : Pts)
theorem build_sizes (hl : l.length < 1099511627776) (hR : Rgt l) (hp : 1 ≤ pad ∧ pad ≤ 8) : TR (buildM_l0_step (w,(h,(pad,l)))) (buildM_l0_pre (w,(h,(pad,l)))) (Ord l,([],(((Ord l).length:Int),0)))
  fun r => (r = .inl () ∧ ¬ Fits (szs l pad)) ∨ (r = .inr (Ord l,szs l pad) ∧ Fits (szs l pad)) := by
 refine for_loop l.length (fun i st => st = (Ord l,((szs l pad).take i,(((Ord l).length:Int),(i:Int)))) ∧ Fits ((szs l pad).take i)) _ (fun i st hi hj => ?_) (fun st hj => ?_) ⟨rfl,by simp [Fits]⟩
 ·obtain ⟨rfl,hF⟩ := hj
  have hlo := ord_len l
  have hls := szs_len l pad
  have hg := ord_get l hi
  have hin : ((Ord l).getD i 0).toNat < l.length := by omega
  have hq := sizeM_law (hR.all _ (getD_in hin zP)) hp
  have hsz := szs_get l pad hi
  refine ⟨?_,?_⟩
  ·unfold buildM_l0_pre letP
   intro _
   dsimp only
   rw [Int.toNat_natCast,hlo]
   exact ⟨by omega,hi,hi,by omega,hin,hin,fun _ => by rw [List.length_take,hls]; omega⟩
  ·unfold buildM_l0_step letV
   dsimp only
   rw [hlo,if_pos (by omega),Int.toNat_natCast,show sizeM (l.getD ((Ord l).getD i 0).toNat ([],([],(0,0))),pad) = _ from hq,← hsz]
   have hm := maxI_le ((szs l pad).getD i (0,0)).1 ((szs l pad).getD i (0,0)).2
   have hmem : (szs l pad).getD i (0,0) ∈ szs l pad := getD_in (by rw [hls]; exact hi) _
   by_cases c : maxI ((szs l pad).getD i (0,0)).1 ((szs l pad).getD i (0,0)).2 > 256
   ·rw [if_pos c]
    exact .inr ⟨_,rfl,.inl ⟨rfl,fun q => by have := q _ hmem; omega⟩⟩
   ·rw [if_neg c]
    refine .inl ⟨_,rfl,?_,fun p hp' => ?_⟩
    ·rw [cntI hi (by omega),take_snoc (by rw [hls]; exact hi) (0,0)]
    ·rw [take_snoc (by rw [hls]; exact hi) (0,0)] at hp'
     rcases List.mem_append.1 hp' with hp' | hp'
     ·exact hF p hp'
     ·simp only [List.mem_singleton] at hp'
      subst hp'; omega
 ·obtain ⟨rfl,hF⟩ := hj
  rw [← szs_len l pad,List.take_length] at hF
  refine ⟨?_,_,?_,.inr ⟨rfl,hF⟩⟩
  ·unfold buildM_l0_pre
   intro q
   dsimp only at q
   rw [ord_len] at q; omega
  ·unfold buildM_l0_step
   dsimp only
   rw [ord_len,if_neg (by omega)]
   have : (szs l pad).take l.length = szs l pad := by rw [← szs_len l pad,List.take_length]
   rw [this]
theorem own_law {p : Ptc} (hp : IsPatch p) (z:Int) : ownM_pre (p,z) ∧ ownM (p,z) = p := by
 have h1 := hp.len
 have h2 := hp.same
 exact ⟨⟨cloneI_tm _ (by dsimp only; omega),cloneT_tm _ (by dsimp only; omega)⟩,rfl⟩
theorem build_own (hl : l.length < 1099511627776) (hR : Rgt l) (o : List Int) (q : List Rct) : TR (buildM_l2_step (w,(h,(pad,l)))) (buildM_l2_pre (w,(h,(pad,l)))) (o,(q,([],0))) fun r => r = (o,(q,l)) := by
 refine for_loop l.length (fun i st => st = (o,(q,(l.take i,(i:Int))))) _ (fun i st hi hj => ?_) (fun st hj => ?_) rfl
 ·subst hj
  obtain ⟨p1,p2⟩ := own_law (hR.all _ (getD_in hi zP)) pad
  refine ⟨?_,.inl ⟨_,?_,rfl⟩⟩
  ·unfold buildM_l2_pre letP
   intro _
   dsimp only
   rw [Int.toNat_natCast]
   exact ⟨by omega,hi,hi,p1,by rw [List.length_take]; omega⟩
  ·unfold buildM_l2_step letV
   dsimp only
   rw [if_pos (by omega),Int.toNat_natCast,show ownM (l.getD i ([],([],(0,0))),pad) = _ from p2,cntI hi (by omega),take_snoc hi zP]
 ·subst hj
  refine ⟨?_,_,?_,rfl⟩
  ·unfold buildM_l2_pre
   intro q
   dsimp only at q; omega
  ·unfold buildM_l2_step
   dsimp only
   rw [if_neg (by omega),List.take_length]
def Put (l : Pts) (q R : List Rct) : Prop := R.length = l.length ∧ ∀ j,j < l.length → R.getD ((Ord l).getD j 0).toNat zR = q.getD j zR
theorem build_put (hl : l.length < 1099511627776) (q : List Rct) (hq : q.length = l.length) : TR (buildM_l4_step (w,(h,(pad,l)))) (buildM_l4_pre (w,(h,(pad,l)))) (q,(l,(List.replicate l.length zR,(Ord l,(((Ord l).length:Int),0)))))
  fun r => r.1 = l ∧ Put l q r.2 := by
 refine for_loop l.length (fun i st => ∃ acc,st = (q,(l,(acc,(Ord l,(((Ord l).length:Int),(i:Int)))))) ∧ acc.length = l.length ∧ ∀ j,j < i → acc.getD ((Ord l).getD j 0).toNat zR = q.getD j zR) _ (fun i st hi hj => ?_) (fun st hj => ?_) ⟨_,rfl,by simp,fun j hj => absurd hj (Nat.not_lt_zero _)⟩
 ·obtain ⟨acc,rfl,ha,hJ⟩ := hj
  have hlo := ord_len l
  have hg := ord_get l hi
  refine ⟨?_,.inl ⟨_,?_,acc.set ((Ord l).getD i 0).toNat (q.getD i zR),rfl,by simp [ha],fun j hj => ?_⟩⟩
  ·unfold buildM_l4_pre
   intro _
   dsimp only
   rw [Int.toNat_natCast,hlo,hq,ha]
   omega
  ·unfold buildM_l4_step letV
   dsimp only
   rw [hlo,if_pos (by omega),Int.toNat_natCast,cntI hi (by omega)]
  ·rw [List.getD_eq_getElem?_getD,List.getElem?_set]
   by_cases e : ((Ord l).getD i 0).toNat = ((Ord l).getD j 0).toNat
   ·have hgj := ord_get l (k := j) (by omega)
    have : i = j := nodup_getD (ord_nodup l) (by omega) (by omega) (by omega)
    subst this
    rw [if_pos rfl,if_pos (by omega)]; rfl
   ·rw [if_neg e,← List.getD_eq_getElem?_getD]
    have : j ≠ i := fun q => e (by rw [q])
    exact hJ j (by omega)
 ·obtain ⟨acc,rfl,ha,hJ⟩ := hj
  refine ⟨?_,(l,acc),?_,rfl,ha,hJ⟩
  ·unfold buildM_l4_pre
   intro q
   dsimp only at q; rw [ord_len] at q; omega
  ·unfold buildM_l4_step
   dsimp only
   rw [ord_len,if_neg (by omega)]
def BOut (r : Atl × Int) : Prop :=
 (¬ (Num w h pad ∧ Rgt l) ∧ r = (zA,1)) ∨ (Num w h pad ∧ Rgt l ∧ (Fits (szs l pad) → packL h (List.replicate w.toNat 0) (szs l pad) = none) ∧ r = (zA,9)) ∨
 (Num w h pad ∧ Rgt l ∧ Fits (szs l pad) ∧ ∃ q R,packL h (List.replicate w.toNat 0) (szs l pad) = some q ∧ Put l q R ∧ r = ((w,(h,(pad,(l,R)))),0))
theorem skyH_zero (hw : In1 w) (hh : In1 h) : SkyH w.toNat h (List.replicate w.toNat 0) := ⟨by simp,fun v hv => by have := List.eq_of_mem_replicate hv; have := hh.1; omega⟩
theorem build_law (hm : l.length ≤ most) : buildM_pre (w,(h,(pad,l))) ∧ BOut w h pad l (buildM (w,(h,(pad,l)))) := by
 have hml := most_le
 have hl : l.length < 1099511627776 := by omega
 have n1 := numbersM_law w h pad
 obtain ⟨r1,r2⟩ := right_law l (by omega)
 unfold buildM_pre buildM letP letV
 dsimp only
 cases hn : numbersM (w,(h,pad)) with
 | false =>
  refine ⟨fun q => absurd rfl q,.inl ⟨fun q => ?_,rfl⟩⟩
  rw [n1.2 q.1] at hn; cases hn
 | true =>
  have hN := n1.1 hn
  obtain ⟨hw,hh,hp⟩ := hN
  cases hr : rightR l with
  | false =>
   refine ⟨fun _ => ⟨r1,fun q => absurd rfl q⟩,.inl ⟨fun q => ?_,rfl⟩⟩
   rw [r2.2 q.2] at hr; cases hr
  | true =>
   have hR := r2.1 hr
   obtain ⟨o1,o2⟩ := order_law l hm
   rw [o2]
   have hs := build_sizes w h pad l hl hR hp
   have hs1 := hs.1
   rcases hs.2 with ⟨e,hF⟩ | ⟨e,hF⟩
   ·rw [e]
    exact ⟨fun _ => ⟨r1,fun _ => ⟨o1,hs1,trivial⟩⟩,.inr (.inl ⟨⟨hw,hh,hp⟩,hR,fun q => absurd q hF,rfl⟩)⟩
   ·rw [e]
    have hin := szs_in1 hR hp hF
    obtain ⟨k1,k2⟩ := pack_law hw hh (szs l pad) (by rw [szs_len]; exact hl) hin
    cases hk : packL h (List.replicate w.toNat 0) (szs l pad) with
    | none =>
     rw [hk] at k2
     have k2 : pack (w,(h,szs l pad)) = ([],9) := k2
     refine ⟨fun _ => ⟨r1,fun _ => ⟨o1,hs1,k1,fun q => ?_⟩⟩,.inr (.inl ⟨⟨hw,hh,hp⟩,hR,fun _ => hk,?_⟩)⟩
     ·exfalso
      refine q ?_
      show ((pack (w,(h,szs l pad))).2 != (0:Int)) = true
      rw [k2]; rfl
     ·show (if ((pack (w,(h,szs l pad))).2 != (0:Int)) = true then _ else _) = _
      rw [k2]; rfl
    | some q =>
     rw [hk] at k2
     have k2 : pack (w,(h,szs l pad)) = (q,0) := k2
     have hw' := hw
     have hh' := hh
     obtain ⟨w1,w2⟩ := hw
     obtain ⟨h1,h2⟩ := hh
     have hql : q.length = l.length := by
      have := (packL_ok (w := w.toNat) (h := h) (by omega) h2 (szs l pad) _ q hin (skyH_zero w h hw' hh') hk).1
      rw [← szs_len l pad,← this,List.length_map]
     have hO := build_own w h pad l hl hR (Ord l) q
     have hP := build_put w h pad l hl q hql
     have hO2 : run (buildM_l2_step (w,(h,(pad,l)))) (Ord l,(q,([],0))) = (Ord l,(q,l)) := hO.2
     refine ⟨fun _ => ⟨r1,fun _ => ⟨o1,hs1,k1,fun _ => ?_⟩⟩,.inr (.inr ⟨⟨hw',hh',hp⟩,hR,hF,q,(run (buildM_l4_step (w,(h,(pad,l)))) (q,(l,(List.replicate l.length zR,(Ord l,(((Ord l).length:Int),0)))))).2,hk,hP.2.2,?_⟩)⟩
     ·rw [k2]
      dsimp only
      rw [hO2]
      exact ⟨⟨Int.le_refl _,hl⟩,hO.1,hP.1⟩
     ·show (if ((pack (w,(h,szs l pad))).2 != (0:Int)) = true then _ else _) = _
      rw [k2]
      show (_,_) = _
      dsimp only
      rw [hO2]
      have := hP.2.1
      generalize run (buildM_l4_step (w,(h,(pad,l)))) (q,(l,(List.replicate l.length zR,(Ord l,(((Ord l).length:Int),0))))) = z at this ⊢
      obtain ⟨z1,z2⟩ := z
      dsimp only at this
      subst this; rfl
end
structure IsAtl (a : Atl) : Prop where
 num : Num a.1 a.2.1 a.2.2.1
 len : a.2.2.2.2.length = a.2.2.2.1.length
 rgt : Rgt a.2.2.2.1
 siz : ∀ i,i < a.2.2.2.1.length → (a.2.2.2.2.getD i zR).2.2 = siz (a.2.2.2.1.getD i zP) a.2.2.1
 sh : ShIs a.1 a.2.1 a.2.2.2.2
theorem is_law (a : Atl) (hl : a.2.2.2.1.length < 1099511627776) (hl2 : a.2.2.2.2.length < 1099511627776) : isM_pre a ∧ (isM a = true ↔ IsAtl a) := by
 obtain ⟨w,h,pad,l,R⟩ := a
 dsimp only at hl hl2
 have n1 := numbersM_law w h pad
 obtain ⟨r1,r2⟩ := right_law l (by omega)
 unfold isM_pre isM letP letV
 dsimp only
 cases hn : numbersM (w,(h,pad)) with
 | false =>
  refine ⟨fun q => absurd rfl q,fun q => (by cases q),fun q => ?_⟩
  rw [n1.2 q.num] at hn; cases hn
 | true =>
  have hN := n1.1 hn
  obtain ⟨hw,hh,hp⟩ := hN
  by_cases hlen : R.length = l.length
  rotate_left
  ·have hb : (((R.length:Nat):Int) != ((l.length:Nat):Int)) = true := by simp; omega
   refine ⟨fun _ q => absurd hb q,?_⟩
   rw [if_neg (by decide),if_pos hb]
   exact ⟨fun q => (by cases q),fun q => absurd q.len hlen⟩
  have hb : ¬ (((R.length:Nat):Int) != ((l.length:Nat):Int)) = true := by simp; omega
  rw [if_neg (by decide),if_neg hb]
  cases hr : rightR l with
  | false =>
   refine ⟨fun _ _ => ⟨r1,fun q => absurd rfl q⟩,fun q => (by cases q),fun q => ?_⟩
   rw [r2.2 q.rgt] at hr; cases hr
  | true =>
   have hR := r2.1 hr
   have key : TR (isM_l0_step (w,(h,(pad,(l,R))))) (isM_l0_pre (w,(h,(pad,(l,R))))) 0 fun r => (r = .inl () ∧ ¬ ∀ i,i < l.length → (R.getD i zR).2.2 = Go.Proofs.Ytbjfokijjefoeaa.siz (l.getD i zP) pad) ∨ (r = .inr () ∧ ∀ i,i < l.length → (R.getD i zR).2.2 = Go.Proofs.Ytbjfokijjefoeaa.siz (l.getD i zP) pad) := by
    refine for_loop l.length (fun i s => s = (i:Int) ∧ ∀ j,j < i → (R.getD j zR).2.2 = Go.Proofs.Ytbjfokijjefoeaa.siz (l.getD j zP) pad) _ (fun i s hi hj => ?_) (fun s hj => ?_) ⟨rfl,fun j hj => absurd hj (Nat.not_lt_zero _)⟩
    ·obtain ⟨rfl,hJ⟩ := hj
     have hq := sizeM_law (hR.all _ (getD_in hi zP)) hp
     refine ⟨?_,?_⟩
     ·unfold isM_l0_pre
      intro _
      dsimp only
      rw [Int.toNat_natCast]
      omega
     ·unfold isM_l0_step letV
      dsimp only
      rw [if_pos (by omega),Int.toNat_natCast,show sizeM (l.getD i ([],([],(0,0))),pad) = _ from hq]
      by_cases c : (R.getD i zR).2.2 = Go.Proofs.Ytbjfokijjefoeaa.siz (l.getD i zP) pad
      ·refine .inl ⟨_,?_,cntI hi (by omega),fun j hj => ?_⟩
       ·rw [if_neg]
        rw [show (R.getD i (0,(0,(0,0)))).2.2.1 = _ from congrArg Prod.fst c,show (R.getD i (0,(0,(0,0)))).2.2.2 = _ from congrArg Prod.snd c]
        simp
       ·rcases Nat.lt_or_ge j i with h1 | h1
        ·exact hJ j h1
        ·have : j = i := by omega
         subst this; exact c
      ·refine .inr ⟨.inl (),?_,.inl ⟨rfl,fun q => c (q i hi)⟩⟩
       rw [if_pos]
       have : ¬ ((R.getD i zR).2.2.1 = (Go.Proofs.Ytbjfokijjefoeaa.siz (l.getD i zP) pad).1 ∧ (R.getD i zR).2.2.2 = (Go.Proofs.Ytbjfokijjefoeaa.siz (l.getD i zP) pad).2) := fun q => c (Prod.ext q.1 q.2)
       show (!(((R.getD i zR).2.2.1 == (Go.Proofs.Ytbjfokijjefoeaa.siz (l.getD i zP) pad).1) && (((R.getD i zR).2.2.2 == (Go.Proofs.Ytbjfokijjefoeaa.siz (l.getD i zP) pad).2) && true))) = true
       generalize (R.getD i zR).2.2 = u at this ⊢
       generalize Go.Proofs.Ytbjfokijjefoeaa.siz (l.getD i zP) pad = v at this ⊢
       cases hb : ((u.1 == v.1) && ((u.2 == v.2) && true)) with
       | false => rfl
       | true =>
        simp only [Bool.and_eq_true,beq_iff_eq,and_true] at hb
        exact absurd hb this
    ·obtain ⟨rfl,hJ⟩ := hj
     refine ⟨?_,.inr (),?_,.inr ⟨rfl,hJ⟩⟩
     ·unfold isM_l0_pre
      intro q
      dsimp only at q; omega
     ·unfold isM_l0_step
      dsimp only
      rw [if_neg (by omega)]
   have k1 := key.1
   rw [if_neg (by decide)]
   obtain ⟨s1,s2⟩ := shis_law hw hh R (by omega)
   rcases key.2 with ⟨e,hS⟩ | ⟨e,hS⟩
   ·rw [e]
    exact ⟨fun _ _ => ⟨r1,fun _ => ⟨k1,trivial⟩⟩,fun q => (by cases q),fun q => absurd q.siz hS⟩
   ·rw [e]
    refine ⟨fun _ _ => ⟨r1,fun _ => ⟨k1,s1⟩⟩,?_⟩
    show shis (w,(h,R)) = true ↔ _
    rw [s2]
    exact ⟨fun q => ⟨⟨hw,hh,hp⟩,hlen,hR,hS,q⟩,fun q => q.sh⟩
end Go.Proofs.Ytbjfokijjefoeaa
