/- Plain laws: what is built is right. -/
import Derived.Test.YtaipcbdilkcdbaaVe
noncomputable section
set_option linter.unusedSectionVars false
set_option linter.unusedVariables false
set_option linter.unusedSimpArgs false
namespace Go.Proofs.Ytaipcbdilkcdbaa
open Go Go.Ev Go.Proofs
theorem hasT_law (b : B3) (p : P3) : hasT_pre (b,p) ∧ (hasT (b,p) = true ↔ ((Sm3 b.1 ∧ Sm3 b.2) ∧ Le3 b.1 b.2) ∧ Le3 b.1 p ∧ Le3 p b.2) := by
 obtain ⟨s1,s2⟩ := slabIs_law b
 refine ⟨s1,?_⟩
 unfold hasT letV
 dsimp only
 by_cases h : slabIs b = true
 ·rw [if_pos h,hasB_law]
  exact ⟨fun q => ⟨s2.1 h,q⟩,fun q => q.2⟩
 ·rw [if_neg h]
  exact ⟨fun q => (by cases q),fun q => absurd (s2.2 q.1) h⟩
theorem hasN_law (b : Brn) (i:Int) (t : T3) : hasN_pre ((b,i),t) ∧ ((∀ p ∈ tp3 t,hasT (b.1,p) = true) → hasN ((b,i),t) = true) := by
 refine ⟨⟨(hasT_law _ _).1,fun _ => ⟨(hasT_law _ _).1,fun _ => (hasT_law _ _).1⟩⟩,fun h => ?_⟩
 unfold hasN letV
 dsimp only
 rw [h t.1 (by simp [tp3]),if_pos rfl,h t.2.1 (by simp [tp3]),if_pos rfl,h t.2.2 (by simp [tp3])]
section
variable {L : List T3} {pl : List Int} {G : List Brn} {N : List (List Int)} {U : List Int} (h : Facts L 0 (-1) pl G N U) (hi : InL L pl) (hs : SmL L) (hn : pl.length ≤ 1000)
include h hi hs hn
theorem Facts.has (hN : ∀ k,k < G.length → (N.getD k []).length ≤ 1000) {k : Nat} (hk : k < G.length) {i : Int} (hin : i ∈ N.getD k []) : ∀ p ∈ tp3 (L.getD i.toNat zT),hasT ((G.getD k zB).1,p) = true := by
 intro p hp
 have hIn : InL L (N.getD k []) := fun i hi' => hi i (h.sub k hk i hi')
 have hne : N.getD k [] ≠ [] := List.ne_nil_of_mem hin
 have hB := boxF_is hs hIn (by have := hN k hk; omega) hne
 rw [h.box k hk]
 have hpt : p ∈ ptsOf L (N.getD k []) := List.mem_flatMap.2 ⟨i,hin,hp⟩
 exact (hasT_law _ _).2.2 ⟨hB.is (ptsOf_sm hs hIn),hB.low p hpt,hB.high p hpt⟩
theorem is_chain (hN : ∀ k,k < G.length → (N.getD k []).length ≤ 1000) {up : List Int} (hul : up.length = G.length) (hup : ∀ k,k < G.length → up.getD k 0 = U.getD k 0) (sn : List Bool) (a b c d e:Int) (ls : List Int) {i : Int} (hin : 0 ≤ i ∧ i < (L.length:Int)) :
  ∀ n k : Nat,k < n → k < G.length → i ∈ N.getD k [] →
  TR (isT_l4_step (G,L)) (isT_l4_pre (G,L)) (up,(sn,(a,(i,((k:Int),(b,(ls,(c,d)))))))) fun r => r = .inr (up,(sn,(a,(b,(ls,(c,d)))))) := by
 intro n
 induction n with
 | zero => intro k hk; omega
 | succ n ih =>
  intro k hkn hk hmem
  obtain ⟨n1,n2⟩ := hasN_law (G.getD k zB) (k:Int) (L.getD i.toNat zT)
  have n3 := n2 (h.has hi hs hn hN hk hmem)
  have hu := hup k hk
  have n3' : hasN ((G.getD k ((((0:Int),((0:Int),(0:Int))),((0:Int),((0:Int),(0:Int)))),((0:Int),((0:Int),([] : List Int)))),(k:Int)),L.getD i.toNat (((0:Int),((0:Int),(0:Int))),(((0:Int),((0:Int),(0:Int))),((0:Int),((0:Int),(0:Int)))))) = true := n3
  refine TR.go (s' := (up,(sn,(a,(i,(up.getD k 0,(b,(ls,(c,d))))))))) ?_ ?_ ?_
  ·unfold isT_l4_pre letP
   intro _
   dsimp only
   rw [Int.toNat_natCast]
   exact ⟨by omega,hk,hk,hin,by omega,by omega,n1,fun _ => ⟨by omega,by omega,by omega⟩⟩
  ·unfold isT_l4_step letV
   dsimp only
   rw [if_pos (by omega),Int.toNat_natCast,n3',if_neg (by decide)]
  ·rcases Nat.eq_zero_or_pos k with e0 | e0
   ·subst e0
    rw [hu,h.u0]
    refine TR.stop (r := .inr (up,(sn,(a,(b,(ls,(c,d))))))) ?_ ?_ rfl
    ·unfold isT_l4_pre
     intro q
     dsimp only at q; omega
    ·unfold isT_l4_step
     dsimp only
     rw [if_neg (by decide)]
   ·obtain ⟨j,j1,j2,j3,_⟩ := h.up0 e0 hk
    rw [hu,j2]
    exact ih j (by omega) (by omega) (j3 i hmem)
def Sn (L : List T3) (S : List Int) (sn : List Bool) : Prop := sn.length = L.length ∧ ∀ j : Nat,j < L.length → (sn.getD j false = true ↔ (j:Int) ∈ S)
theorem is_leaf (hN : ∀ k,k < G.length → (N.getD k []).length ≤ 1000) {up : List Int} (hul : up.length = G.length) (hup : ∀ k,k < G.length → up.getD k 0 = U.getD k 0) (hnd : pl.Nodup) {k : Nat} (hk : k < G.length) {S : List Int} (hS : (S ++ (G.getD k zB).2.2.2).Nodup) (hsub : ∀ i ∈ (G.getD k zB).2.2.2,i ∈ N.getD k []) (hlen : (G.getD k zB).2.2.2.length ≤ 1000) {sn : List Bool} (hsn : Sn L S sn) :
  TR (isT_l2_step (G,L)) (isT_l2_pre (G,L)) (up,(sn,((k:Int),((k:Int),((G.getD k zB).2.2.2,((((G.getD k zB).2.2.2.length:Nat):Int),0)))))) fun r => ∃ sn',r = .inr (up,(sn',(k:Int))) ∧ Sn L (S ++ (G.getD k zB).2.2.2) sn' := by
 generalize hT : (G.getD k zB).2.2.2 = T at *
 refine for_loop T.length (fun j s => ∃ sn',s = (up,(sn',((k:Int),((k:Int),(T,(((T.length:Nat):Int),(j:Int))))))) ∧ Sn L (S ++ T.take j) sn') _ (fun j s hj hJ => ?_) (fun s hJ => ?_) ⟨sn,rfl,by simpa using hsn⟩
 ·obtain ⟨sn',rfl,hl,hm⟩ := hJ
  have hmem := hsub _ (getD_in hj 0)
  have hin := hi _ (h.sub k hk _ hmem)
  generalize hp : T.getD j 0 = p at *
  have hplt : p.toNat < L.length := by omega
  have hpn : ((p.toNat:Nat):Int) = p := by omega
  have hno : ¬ sn'.getD p.toNat false = true := fun q => by
   have h1 := (hm p.toNat hplt).1 q
   rw [hpn] at h1
   have h2 : (S ++ T.take j ++ [p]).Nodup := by
    have : S ++ T = (S ++ T.take j ++ [p]) ++ T.drop (j + 1) := by
     rw [← hp,List.append_assoc S,← take_snoc hj 0,List.append_assoc,List.take_append_drop]
    rw [this] at hS
    exact (List.nodup_append.1 hS).1
   rw [List.nodup_append] at h2
   exact h2.2.2 p h1 p (by simp) rfl
  have hchain := is_chain h hi hs hn hN hul hup (sn'.set p.toNat true) (k:Int) (k:Int) ((T.length:Nat):Int) (j:Int) 0 T hin (k + 1) k (by omega) hk hmem
  refine ⟨?_,.inl ⟨(up,(sn'.set p.toNat true,((k:Int),((k:Int),(T,(((T.length:Nat):Int),((j + 1:Nat):Int))))))),?_,_,rfl,by simp [hl],fun q hq => ?_⟩⟩
  ·unfold isT_l2_pre letP
   intro _
   dsimp only
   rw [Int.toNat_natCast,hp]
   exact ⟨by omega,hj,hj,fun _ _ => ⟨by omega,by omega,by omega,fun _ => ⟨by omega,by omega,by omega,hchain.1⟩⟩⟩
  ·unfold isT_l2_step letV
   dsimp only
   rw [if_pos (by omega),Int.toNat_natCast,hp,if_neg (by omega),if_neg (by omega),if_neg hno,hchain.2]
   show Sum.inl (up,(sn'.set p.toNat true,((k:Int),((k:Int),(T,(((T.length:Nat):Int),w64 ((j:Int) + 1))))))) = _
   rw [cntI hj (by omega)]
  ·rw [set_get _ _ _ _ _ (by omega),take_snoc hj 0,hp]
   by_cases e : p.toNat = q
   ·rw [if_pos e]
    subst e
    simp [hpn]
   ·rw [if_neg e,hm q hq]
    have hne : ¬ (q:Int) = p := fun e' => e (by omega)
    simp [hne]
 ·obtain ⟨sn',rfl,hJ⟩ := hJ
  rw [List.take_length] at hJ
  refine ⟨?_,_,?_,sn',rfl,hJ⟩
  ·unfold isT_l2_pre
   intro q
   dsimp only at q; omega
  ·unfold isT_l2_step
   dsimp only
   rw [if_neg (by omega)]
theorem is_all (hN : ∀ k,k < G.length → (N.getD k []).length ≤ 1000) (hG : G.length ≤ 10000) {up : List Int} (hul : up.length = G.length) (hup : ∀ k,k < G.length → up.getD k 0 = U.getD k 0) (hnd : pl.Nodup) :
  TR (isT_l0_step (G,L)) (isT_l0_pre (G,L)) (up,(List.replicate L.length false,0)) fun r => ∃ sn,r = .inr sn ∧ Sn L (G.flatMap fun b => b.2.2.2) sn := by
 have hnd2 : (G.flatMap fun b => b.2.2.2).Nodup := h.tris.nodup_iff.2 hnd
 refine for_loop G.length (fun i s => ∃ sn,s = (up,(sn,(i:Int))) ∧ Sn L ((G.take i).flatMap fun b => b.2.2.2) sn) _ (fun i s hk hJ => ?_) (fun s hJ => ?_) ⟨_,rfl,by simp,fun j hj => ?_⟩
 ·obtain ⟨sn,rfl,hS⟩ := hJ
  have hsp : (G.flatMap fun b => b.2.2.2) = ((G.take i).flatMap fun b => b.2.2.2) ++ (G.getD i zB).2.2.2 ++ ((G.drop (i + 1)).flatMap fun b => b.2.2.2) := by
   have h1 := List.take_append_drop (i + 1) G
   rw [take_snoc hk zB] at h1
   have h2 := congrArg (fun l : List Brn => l.flatMap fun b => b.2.2.2) h1
   simp only [List.flatMap_append,List.flatMap_cons,List.flatMap_nil,List.append_nil] at h2
   exact h2.symm
  have hS2 : (((G.take i).flatMap fun b => b.2.2.2) ++ (G.getD i zB).2.2.2).Nodup := by
   rw [hsp] at hnd2
   exact (List.nodup_append.1 hnd2).1
  have hsub : (∀ p ∈ (G.getD i zB).2.2.2,p ∈ N.getD i []) ∧ (G.getD i zB).2.2.2.length ≤ 1000 := by
   rcases h.kind0 hk with ⟨_,_,a3,a4⟩ | ⟨_,_,_,_,_,a5,_⟩
   ·rw [a3]; exact ⟨fun p hp => hp,by omega⟩
   ·rw [a5]; exact ⟨fun p hp => (by cases hp),by simp⟩
  have key := is_leaf h hi hs hn hN hul hup hnd hk hS2 hsub.1 hsub.2 hS
  obtain ⟨sn',e,hS'⟩ := key.2
  refine ⟨?_,.inl ⟨(up,(sn',((i + 1:Nat):Int))),?_,sn',rfl,?_⟩⟩
  ·unfold isT_l0_pre
   intro _
   dsimp only
   rw [Int.toNat_natCast]
   exact ⟨by omega,hk,hk,key.1⟩
  ·unfold isT_l0_step letV
   dsimp only
   rw [if_pos (by omega),Int.toNat_natCast]
   refine Eq.trans (congrArg (fun r => Sum.elim (fun a => Sum.inr (Sum.inl ())) (fun b => Sum.inl (b.1,(b.2.1,(w64 (b.2.2 + (1:Int)))))) r) e) ?_
   show Sum.inl (up,(sn',w64 ((i:Int) + 1))) = _
   rw [cntI hk (by omega)]
  ·rw [take_snoc hk zB]
   simpa using hS'
 ·obtain ⟨sn,rfl,hS⟩ := hJ
  rw [List.take_length] at hS
  refine ⟨?_,.inr sn,?_,sn,rfl,hS⟩
  ·unfold isT_l0_pre
   intro q
   dsimp only at q; omega
  ·unfold isT_l0_step
   dsimp only
   rw [if_neg (by omega)]
 ·rw [List.getD_eq_getElem?_getD,List.getElem?_replicate,if_pos hj]; simp
end
theorem TreeOf.small {L : List T3} {s : Nat} {par : Int} {pl : List Int} {G : List Brn} {N : List (List Int)} {U : List Int} (h : TreeOf L s par pl G N U) : ∀ x ∈ N,x.length ≤ pl.length := by
 induction h with
 | leaf s par pl hl => intro x hx; simp only [List.mem_singleton] at hx; subst hx; omega
 | fork s par pl a b A B NA NB UA UB h2 hp ha hb he hA hB ihA ihB =>
  intro x hx
  simp only [List.mem_cons,List.mem_append] at hx
  rcases hx with rfl | hx | hx
  ·omega
  ·have := ihA x hx; omega
  ·have := ihB x hx; omega
theorem isT_law {L : List T3} {pl : List Int} {G : List Brn} {N : List (List Int)} {U : List Int} (ht : TreeOf L 0 (-1) pl G N U) (hi : InL L pl) (hs : SmL L) (hn : pl.length ≤ 1000) (hL : L.length ≤ 1000) (hG : G.length ≤ 10000) (hnd : pl.Nodup) (hall : ∀ j : Nat,j < L.length → (j:Int) ∈ pl) : isT_pre (G,L) ∧ isT (G,L) = true := by
 have h := ht.facts
 have hN : ∀ k,k < G.length → (N.getD k []).length ≤ 1000 := fun k hk => by
  have := ht.small _ (getD_in (show k < N.length by rw [h.n1]; exact hk) [])
  omega
 obtain ⟨p1,up,p2,hul,hup⟩ := parents_law h (by omega)
 have key := is_all h hi hs hn hN hG hul hup hnd
 obtain ⟨sn,e,hl,hm⟩ := key.2
 obtain ⟨c1,c2⟩ := containsB_law sn (by omega) false
 have hno : containsB (sn,false) = false := by
  cases hb : containsB (sn,false) with
  | false => rfl
  | true =>
   have := c2.1 hb
   obtain ⟨j,hj,e2⟩ := List.mem_iff_getElem.1 this
   have h3 := (hm j (by omega)).2 (h.tris.mem_iff.2 (hall j (by omega)))
   rw [List.getD_eq_getElem?_getD,List.getElem?_eq_getElem hj,Option.getD_some,e2] at h3
   cases h3
 unfold isT_pre isT letP letV
 dsimp only
 rw [p2]
 dsimp only
 rw [if_neg (by decide),e]
 refine ⟨⟨p1,fun _ => ⟨⟨by omega,by omega⟩,key.1,c1⟩⟩,?_⟩
 show (!containsB (sn,false)) = true
 rw [hno]; rfl
end Go.Proofs.Ytaipcbdilkcdbaa

namespace Go.Proofs.Ytaipcbdilkcdbaa
open Go Go.Ev Go.Proofs
def DEq (G : List Brn) (N : List (List Int)) (d : List Int) (k:Nat) : Prop := ((G.getD k zB).2.1 = 0 ∧ (G.getD k zB).2.2.1 = 0 ∧ d.getD k 0 = 1) ∨
 (∃ r : Nat,(G.getD k zB).2.1 = ((k + 1:Nat):Int) ∧ (G.getD k zB).2.2.1 = (r:Int) ∧ k + 1 < r ∧ r < G.length ∧ d.getD k 0 = maxI (maxI 1 (d.getD (k + 1) 0 + 1)) (d.getD r 0 + 1))
theorem depth_inner (G : List Brn) (d T : List Int) (i r:Nat) (hd : d.length = G.length) (hi : i + 1 < r) (hr : r < G.length) (hb : ∀ k,k < G.length → 0 ≤ d.getD k 0 ∧ d.getD k 0 ≤ 1000000) :
  TR (depthT_l2_10_step G) (depthT_l2_10_pre G) (d.set i 1,(T,((i:Int),(((i + 1:Nat):Int),((r:Int),0))))) fun z => ∃ d',z = (d',T) ∧ d'.length = G.length ∧ ∀ k,k < G.length → d'.getD k 0 = if i = k then maxI (maxI 1 (d.getD (i + 1) 0 + 1)) (d.getD r 0 + 1) else d.getD k 0 := by
 have hl1 : (d.set i 1).length = G.length := by simp [hd]
 have g1 : (d.set i 1).getD i 0 = 1 := by rw [set_get _ _ _ _ _ (by omega),if_pos rfl]
 have g2 : (d.set i 1).getD (i + 1) 0 = d.getD (i + 1) 0 := by rw [set_get _ _ _ _ _ (by omega),if_neg (by omega)]
 have b1 := hb (i + 1) (by omega)
 have b2 := hb r hr
 have w1 : w64 (d.getD (i + 1) 0 + 1) = d.getD (i + 1) 0 + 1 := w64_id (by omega) (by omega)
 have w2 : w64 (d.getD r 0 + 1) = d.getD r 0 + 1 := w64_id (by omega) (by omega)
 generalize hd1 : (d.set i 1).set i (maxI 1 (d.getD (i + 1) 0 + 1)) = d1
 have hl2 : d1.length = G.length := by rw [← hd1]; simp [hd]
 have g3 : d1.getD i 0 = maxI 1 (d.getD (i + 1) 0 + 1) := by rw [← hd1,set_get _ _ _ _ _ (by omega),if_pos rfl]
 have g4 : d1.getD r 0 = d.getD r 0 := by rw [← hd1,set_get _ _ _ _ _ (by omega),if_neg (by omega),set_get _ _ _ _ _ (by omega),if_neg (by omega)]
 refine TR.go (s' := (d1,(T,((i:Int),(((i + 1:Nat):Int),((r:Int),1)))))) ?_ ?_ (TR.go (s' := (d1.set i (maxI (maxI 1 (d.getD (i + 1) 0 + 1)) (d.getD r 0 + 1)),(T,((i:Int),(((i + 1:Nat):Int),((r:Int),2)))))) ?_ ?_ (TR.stop (r := (d1.set i (maxI (maxI 1 (d.getD (i + 1) 0 + 1)) (d.getD r 0 + 1)),T)) ?_ ?_ ⟨_,rfl,by simp [hl2],fun k hk => ?_⟩))
 ·unfold depthT_l2_10_pre
  intro _
  dsimp only
  simp only [Int.toNat_natCast,show (0 + Int.toNat (0:Int) * 1) = 0 from rfl,List.getD_cons_zero]
  exact ⟨by decide,by decide,fun _ _ => ⟨by omega,by omega,by omega,by omega,by omega,by omega,by omega,by omega,by omega⟩⟩
 ·unfold depthT_l2_10_step letV
  dsimp only
  simp only [Int.toNat_natCast,show (0 + Int.toNat (0:Int) * 1) = 0 from rfl,List.getD_cons_zero]
  rw [if_pos (by decide),if_pos (by omega),if_pos (by omega),g1,g2,w1,hd1]
  rfl
 ·unfold depthT_l2_10_pre
  intro _
  dsimp only
  simp only [Int.toNat_natCast,show (0 + Int.toNat (1:Int) * 1) = 1 from rfl,List.getD_cons_succ,List.getD_cons_zero]
  exact ⟨by decide,by decide,fun _ _ => ⟨by omega,by omega,by omega,by omega,by omega,by omega,by omega,by omega,by omega⟩⟩
 ·unfold depthT_l2_10_step letV
  dsimp only
  simp only [Int.toNat_natCast,show (0 + Int.toNat (1:Int) * 1) = 1 from rfl,List.getD_cons_succ,List.getD_cons_zero]
  rw [if_pos (by decide),if_pos (by omega),if_pos (by omega),g3,g4,w2]
  rfl
 ·unfold depthT_l2_10_pre
  intro q
  exact absurd (show (2:Int) < 2 from q) (by decide)
 ·unfold depthT_l2_10_step
  dsimp only
  rw [if_neg (by decide)]
 ·rw [set_get _ _ _ _ _ (by omega)]
  by_cases e : i = k
  ·rw [if_pos e,if_pos e]
  ·rw [if_neg e,if_neg e,← hd1,set_get _ _ _ _ _ (by omega),if_neg e,set_get _ _ _ _ _ (by omega),if_neg e]
theorem maxI_bd (a b c:Int) (h1 : a ≤ c) (h2 : b ≤ c) : maxI a b ≤ c := by unfold maxI; split <;> assumption
section
variable {L : List T3} {pl : List Int} {G : List Brn} {N : List (List Int)} {U : List Int} (h : Facts L 0 (-1) pl G N U)
include h
theorem depth_loop (hG : G.length ≤ 10000) : TR (depthT_w0l0_8_step G ()) (depthT_w0l0_8_pre G ()) (List.replicate G.length 0,((G.length:Nat):Int) - 1) fun d => d.length = G.length ∧ ∀ k,k < G.length → DEq G N d k := by
 refine for_loop G.length (fun c s => ∃ d,s = (d,((G.length:Nat):Int) - 1 - (c:Int)) ∧ d.length = G.length ∧ (∀ k,k < G.length → 0 ≤ d.getD k 0 ∧ d.getD k 0 ≤ (c:Int)) ∧ ∀ k,k < G.length → G.length ≤ k + c → DEq G N d k) _ (fun c s hc hJ => ?_) (fun s hJ => ?_) ⟨List.replicate G.length 0,by simp,by simp,fun k hk => ?_,fun k hk hk2 => by omega⟩
 ·obtain ⟨d,rfl,hl,hbd,hE⟩ := hJ
  obtain ⟨i,hi⟩ : ∃ i,i = G.length - 1 - c := ⟨_,rfl⟩
  have hin : i < G.length := by omega
  have hii : ((G.length:Nat):Int) - 1 - (c:Int) = (i:Int) := by omega
  have hw : w64 ((i:Int) - 1) = ((G.length:Nat):Int) - 1 - ((c + 1:Nat):Int) := by rw [w64_id (by omega) (by omega)]; omega
  rw [hii]
  rcases h.kind0 hin with ⟨a1,a2,a3,a4⟩ | ⟨r,a1,a2,a3,a4,a5,a6,a7,a8⟩
  ·have hleaf : leafN (G.getD i ((((0:Int),((0:Int),(0:Int))),((0:Int),((0:Int),(0:Int)))),((0:Int),((0:Int),([] : List Int)))),(i:Int)) = true := (leafN_law (G.getD i zB) _).2 ⟨a1,a2⟩
   refine ⟨?_,.inl ⟨(d.set i 1,((G.length:Nat):Int) - 1 - ((c + 1:Nat):Int)),?_,_,rfl,by simp [hl],fun k hk => ?_,fun k hk hk2 => ?_⟩⟩
   ·unfold depthT_w0l0_8_pre letP
    intro _
    dsimp only
    rw [Int.toNat_natCast,hleaf]
    exact ⟨by omega,hin,hin,by omega,by omega,by omega,fun q => absurd rfl q⟩
   ·unfold depthT_w0l0_8_step letV
    dsimp only
    rw [if_pos (by omega),Int.toNat_natCast,hleaf,if_pos rfl,hw]
   ·rw [set_get _ _ _ _ _ (by omega)]
    have := hbd k hk
    split <;> omega
   ·by_cases e : i = k
    ·subst e
     exact .inl ⟨a1,a2,by rw [set_get _ _ _ _ _ (by omega),if_pos rfl]⟩
    ·rcases hE k hk (by omega) with ⟨q1,q2,q3⟩ | ⟨r',q1,q2,q3,q4,q5⟩
     ·exact .inl ⟨q1,q2,by rw [set_get _ _ _ _ _ (by omega),if_neg e]; exact q3⟩
     ·exact .inr ⟨r',q1,q2,q3,q4,by rw [set_get _ _ _ _ _ (by omega),if_neg e,set_get _ _ _ _ _ (by omega),if_neg (by omega),set_get _ _ _ _ _ (by omega),if_neg (by omega)]; exact q5⟩
  ·have hleaf : leafN (G.getD i ((((0:Int),((0:Int),(0:Int))),((0:Int),((0:Int),(0:Int)))),((0:Int),((0:Int),([] : List Int)))),(i:Int)) = false := by
    cases e : leafN (G.getD i ((((0:Int),((0:Int),(0:Int))),((0:Int),((0:Int),(0:Int)))),((0:Int),((0:Int),([] : List Int)))),(i:Int)) with
    | false => rfl
    | true =>
     have := ((leafN_law (G.getD i zB) _).1 e).1
     rw [a1] at this; omega
   have key := depth_inner G d (G.getD i zB).2.2.2 i r hl a3 a4 (fun k hk => by have := hbd k hk; omega)
   obtain ⟨d',e,hl',hd'⟩ := key.2
   have b1 : (G.getD i ((((0:Int),((0:Int),(0:Int))),((0:Int),((0:Int),(0:Int)))),((0:Int),((0:Int),([] : List Int))))).2.1 = ((i + 1:Nat):Int) := a1
   have b2 : (G.getD i ((((0:Int),((0:Int),(0:Int))),((0:Int),((0:Int),(0:Int)))),((0:Int),((0:Int),([] : List Int))))).2.2.1 = (r:Int) := a2
   refine ⟨?_,.inl ⟨(d',((G.length:Nat):Int) - 1 - ((c + 1:Nat):Int)),?_,d',rfl,hl',fun k hk => ?_,fun k hk hk2 => ?_⟩⟩
   ·unfold depthT_w0l0_8_pre letP
    intro _
    dsimp only
    rw [Int.toNat_natCast,hleaf,b1,b2]
    exact ⟨by omega,hin,hin,by omega,by omega,by omega,fun _ => key.1⟩
   ·unfold depthT_w0l0_8_step letV
    dsimp only
    rw [if_pos (by omega),Int.toNat_natCast,hleaf,if_neg (by decide),b1,b2]
    refine Eq.trans (congrArg (fun z : (List Int) × (List Int) => Sum.inl (z.1,w64 ((i:Int) - 1))) e) ?_
    dsimp only
    rw [hw]
   ·rw [hd' k hk]
    have q1 := hbd k hk
    have q2 := hbd (i + 1) (by omega)
    have q3 := hbd r a4
    split
    ·have m1 := maxI_le 1 (d.getD (i + 1) 0 + 1)
     have m2 := maxI_le (maxI 1 (d.getD (i + 1) 0 + 1)) (d.getD r 0 + 1)
     exact ⟨by omega,maxI_bd _ _ _ (maxI_bd _ _ _ (by omega) (by omega)) (by omega)⟩
    ·omega
   ·by_cases e2 : i = k
    ·subst e2
     refine .inr ⟨r,a1,a2,a3,a4,?_⟩
     rw [hd' i hk,if_pos rfl,hd' (i + 1) (by omega),if_neg (by omega),hd' r a4,if_neg (by omega)]
    ·rcases hE k hk (by omega) with ⟨q1,q2,q3⟩ | ⟨r',q1,q2,q3,q4,q5⟩
     ·exact .inl ⟨q1,q2,by rw [hd' k hk,if_neg e2]; exact q3⟩
     ·exact .inr ⟨r',q1,q2,q3,q4,by rw [hd' k hk,if_neg e2,hd' (k + 1) (by omega),if_neg (by omega),hd' r' q4,if_neg (by omega)]; exact q5⟩
 ·obtain ⟨d,rfl,hl,hbd,hE⟩ := hJ
  refine ⟨?_,d,?_,hl,fun k hk => hE k hk (by omega)⟩
  ·unfold depthT_w0l0_8_pre
   intro q
   dsimp only at q; omega
  ·unfold depthT_w0l0_8_step
   dsimp only
   rw [if_neg (by omega)]
 ·rw [List.getD_eq_getElem?_getD,List.getElem?_replicate,if_pos hk]
  exact ⟨by decide,by simp⟩
theorem depth_law (hG : G.length ≤ 10000) : depthT_pre G ∧ ∃ d : List Int,depthT G = d.getD 0 0 ∧ ∀ k,k < G.length → DEq G N d k := by
 have hpos := h.pos
 have key := depth_loop h hG
 have hb : ¬ ((((G.length:Nat):Int) == 0) = true) := by simp; exact List.length_pos_iff.1 hpos
 have hw : w64 (((G.length:Nat):Int) - 1) = ((G.length:Nat):Int) - 1 := w64_id (by omega) (by omega)
 unfold depthT_pre depthT letP letV
 dsimp only
 rw [if_neg hb,hw]
 have hl := key.2.1
 exact ⟨fun _ => ⟨⟨by omega,by omega⟩,key.1,by omega,by omega,by omega⟩,_,rfl,key.2.2⟩
end
end Go.Proofs.Ytaipcbdilkcdbaa
