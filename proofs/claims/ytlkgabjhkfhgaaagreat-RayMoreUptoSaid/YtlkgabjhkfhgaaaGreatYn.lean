/- Plain laws: what is built of triangles; the document's rows. -/
import Derived.Test.YtlkgabjhkfhgaaaGreatVf
import Derived.Test.YtlkgabjhkfhgaaaGreatSe
import Derived.Test.YtlkgabjhkfhgaaaGreatYd
noncomputable section
set_option linter.unusedSectionVars false
set_option linter.unusedVariables false
set_option linter.unusedSimpArgs false
namespace Go.Proofs.YtlkgabjhkfhgaaaGreat
open Go Go.Ev Go.Proofs
theorem uM (t:T3):uN t/\ (yg t=true↔ ¬ ∀p∈C5 t,fq p):=by
 obtain ⟨s1,s2⟩:=cK [t.1,t.2.1,t.2.2] (by simp)
 refine ⟨s1,?_⟩
 unfold yg ai
 rw [s2,Bool.not_eq_true',decide_eq_false_iff_not]
 exact Iff.rfl
theorem Lm (L:List T3) (hl:L.length<4611686018427387904):uL L/\ (yf L=true↔xC L):=by
 have hh:=mP L hl yg (gS (L,false)) (oo (L,false)) (fun i hi=>by
   unfold oo
   intro h
   simp only [Int.toNat_natCast]
   dsimp only at h ⊢
   exact ⟨by omega,by omega,by omega,(uM _).1⟩) (fun i x hx=>by
   have hlt:=eu hx
   unfold gS ai
   dsimp only
   rw [if_pos (by omega),Int.toNat_natCast,jw hx]) (by
   unfold gS
   dsimp only
   rw [if_neg (by omega)])
 refine ⟨hh.1,?_⟩
 have e:KG (L,false)=_:=hh.2
 unfold yf xK ai
 dsimp only
 rw [e]
 have e2:=qY L yg
 refine (iff_of_eq (congrArg (fun b:Bool=>(!b)=true) e2)).trans ?_
 rw [Bool.not_eq_true',List.any_eq_false]
 unfold xC
 constructor
 ·intro h t ht
  have:=h t ht
  rw [(uM t).2] at this
  exact Classical.byContradiction this
 ·intro h t ht
  rw [(uM t).2]
  exact fun q=>q (h t ht)
def Dk (n:Nat):List Int:=(List.range n).map fun (i:Nat)=>(i:Int)
theorem wA (n:Nat):(Dk n).length=n:=by simp [Dk]
theorem Sk (n:Nat):Dk (n+1)=Dk n++ [(n:Int)]:=by simp [Dk,List.range_succ]
theorem wB (n:Nat) (x:Int):x∈Dk n↔0<=x/\ x<(n:Int):=by
 simp only [Dk,List.mem_map,List.mem_range]
 constructor
 ·rintro ⟨a,ha,rfl⟩;omega
 ·rintro ⟨h1,h2⟩;exact ⟨x.toNat,by omega,by omega⟩
theorem O7 (n:Nat):(Dk n).Nodup:=by
 unfold Dk
 rw [List.nodup_iff_pairwise_ne,List.pairwise_map]
 exact (List.nodup_iff_pairwise_ne.1 List.nodup_range).imp fun h e=>h (by omega)
theorem J4 (L:List T3) (hl:L.length<=1000):TR (eY L) (kD L) (List.replicate L.length 0,0) fun r=>r=Dk L.length:=by
 have WZ:(List.replicate L.length (0:Int)).length=L.length:=List.length_replicate
 refine gN L.length (fun i s=>s=(Dk i++List.replicate (L.length- i) 0,(i:Int))) _ (fun i s hi hJ=> ?_) (fun s hJ=> ?_) (by simp [Dk])
 ·subst hJ
  have hlen:(Dk i++List.replicate (L.length- i) (0:Int)).length=L.length:=by rw [List.length_append,wA,List.length_replicate];omega
  have QT:(Dk i++List.replicate (L.length- i) (0:Int)).set i (i:Int)=Dk (i+1)++List.replicate (L.length- (i+1)) 0:=by
   have e:L.length- i=(L.length- (i+1))+1:=by omega
   rw [e,List.replicate_succ,Sk]
   have:=GO (Dk i) (List.replicate (L.length- (i+1)) (0:Int)) 0 (i:Int)
   rw [wA] at this
   rw [this];simp
  refine ⟨?_,.inl ⟨_,?_,rfl⟩⟩
  ·unfold kD
   intro _
   dsimp only
   rw [Int.toNat_natCast,hlen];omega
  ·unfold eY ai
   dsimp only
   rw [WZ,if_pos (by omega),Int.toNat_natCast,QT,Nu hi (by omega)]
 ·subst hJ
  refine ⟨?_,Dk L.length++List.replicate (L.length- L.length) 0,?_,by simp⟩
  ·unfold kD
   intro q
   dsimp only at q
   rw [WZ] at q;omega
  ·unfold eY
   dsimp only
   rw [WZ,if_neg (by omega)]
theorem jX (L:List T3) (hl:L.length<=500):fF L/\ ((¬xC L/\ bY L=([],5))\/ (xC L/\ ∃G N U,bY L=(G,0)/\ G.length<=1000/\ iU L 0 (-1) (Dk L.length) G N U)):=by
 obtain ⟨s1,s2⟩:=Lm L (by omega)
 have k:=J4 L (by omega)
 have hi:G6 L (Dk L.length):=fun i h=>(wB _ _).1 h
 obtain ⟨g1,G,N,U,g2,g3,g4⟩:=NU (L:=L) (pl:=Dk L.length) [] hi (by rw [wA];omega) (by simp)
 have hb: ¬((L.length:Nat):Int)>500:=by omega
 unfold fF bY az ai
 rw [if_neg hb]
 cases hs:yf L with
 |false=>
  exact ⟨fun _=>⟨s1,fun q=>absurd (by decide) q⟩,.inl ⟨fun q=>(by rw [s2.2 q] at hs;cases hs),rfl⟩⟩
 |true=>
  dsimp only
  rw [if_neg (by decide),k.2]
  rw [wA] at g3
  refine ⟨fun _=>⟨s1,fun _=>⟨⟨by omega,by omega⟩,k.1,g1⟩⟩,.inr ⟨s2.1 hs,G,N,U,?_,by omega,g4⟩⟩
  rw [g2];rfl
end Go.Proofs.YtlkgabjhkfhgaaaGreat
namespace Go.Proofs.YtlkgabjhkfhgaaaGreat
open Go Go.Ev Go.Proofs
def eP (L:List T3) (a b:P3):Prop:= ∃t∈L,qy a b t
instance (L:List T3) (a b:P3):Decidable (eP L a b):=by unfold eP;infer_instance
theorem T5 (L:List T3) (a b:P3):lW L a b (Dk L.length)↔eP L a b:=by
 constructor
 ·rintro ⟨i,h1,h2⟩
  have h:=(wB _ _).1 h1
  exact ⟨_,l8 (show i.toNat<L.length by omega) zT,h2⟩
 ·rintro ⟨t,h1,h2⟩
  obtain ⟨i,hi,rfl⟩:=List.mem_iff_getElem.1 h1
  refine ⟨(i:Int),(wB _ _).2 ⟨by omega,by omega⟩,?_⟩
  rw [Int.toNat_natCast,List.getD_eq_getElem?_getD,List.getElem?_eq_getElem hi]
  exact h2
theorem F8 (t:T3):A1 t/\ (NM t=true↔ ¬ ∀p∈C5 t,fq p):=by
 obtain ⟨s1,s2⟩:=cK [t.1,t.2.1,t.2.2] (by simp)
 refine ⟨s1,?_⟩
 unfold NM ai
 rw [s2]
 show (!decide (∀p∈C5 t,fq p))=true↔_
 simp
theorem tE (L:List T3) (hl:L.length<4611686018427387904):n6 (L,false)/\ (j0 (L,false)=true↔ ¬xC L):=by
 have hh:=mP L hl NM (gP (L,false)) (oh (L,false)) (fun i hi=>by
   unfold oh
   intro h
   simp only [Int.toNat_natCast]
   dsimp only at h ⊢
   exact ⟨by omega,by omega,by omega,(F8 _).1⟩) (fun i x hx=>by
   have hlt:=eu hx
   unfold gP ai
   dsimp only
   rw [if_pos (by omega),Int.toNat_natCast,jw hx]) (by
   unfold gP
   dsimp only
   rw [if_neg (by omega)])
 refine ⟨hh.1,?_⟩
 have e:KE (L,false)=_:=hh.2
 unfold j0 ai
 dsimp only
 rw [e]
 refine (iff_of_eq (congrArg (fun b:Bool=>b=true) (qY L NM))).trans ?_
 rw [List.any_eq_true]
 unfold xC
 constructor
 ·rintro ⟨t,h1,h2⟩ h3
  exact (F8 t).2.1 h2 (h3 t h1)
 ·intro h
  refine Classical.byContradiction fun h2=>h fun t ht=>Classical.byContradiction fun h3=>h2 ⟨t,ht,(F8 t).2.2 h3⟩
theorem kH (L:List T3) (hl:L.length<4611686018427387904):gg (L,false)/\ (bZ (L,false)=true↔ ¬xC L):=tE L hl
theorem pb {L:List T3} (hs:xC L) (hl:L.length<=500) (a b:P3):jm ((bY L).1,(L,(a,b)))/\
  ((¬(fq a/\ fq b)/\ xx ((bY L).1,(L,(a,b)))=(false,(0,5)))\/ ((fq a/\ fq b)/\ ∃m:Nat,1<=m/\ m<=(bY L).1.length/\ xx ((bY L).1,(L,(a,b)))=(decide (eP L a b),((m:Int),0)))):=by
 obtain ⟨_,b2⟩:=jX L hl
 rcases b2 with ⟨q,_⟩|⟨_,G,N,U,e,hG,ht⟩
 ·exact absurd hs q
 rw [e]
 dsimp only
 have hi:G6 L (Dk L.length):=fun i h=>(wB _ _).1 h
 have hr:=wA L.length
 obtain ⟨i1,i2⟩:=Ul ht hi hs (by omega) (by omega) (by omega) (O7 _) (fun j hj=>(wB _ _).2 ⟨by omega,by omega⟩)
 obtain ⟨s1,s2⟩:=cK [a,b] (by simp)
 obtain ⟨c1,c2⟩:=tE L (by omega)
 have c3:j0 (L,false)=false:=by
  cases h:j0 (L,false) with
  |false=>rfl
  |true=>exact absurd hs (c2.1 h)
 unfold jm xx az ai
 dsimp only
 rw [i2,c3,s2]
 by_cases hab:fq a/\ fq b
 ·have h1: ∀p∈ [a,b],fq p:=sm2 hab.1 hab.2
  rw [decide_eq_true h1]
  by_cases h0:L= []
  ·subst h0
   refine ⟨⟨i1,fun _=>⟨s1,fun _=>⟨c1,fun _ q=>absurd rfl q⟩⟩⟩,.inr ⟨hab,1,Nat.le_refl _,ht.facts.pos,?_⟩⟩
   rw [if_neg (by decide),if_neg (by decide),if_neg (by decide),if_pos (by rfl)]
   refine Prod.ext ?_ rfl
   exact (decide_eq_false (show¬eP [] a b from fun ⟨t,h,_⟩=>by cases h)).symm
  ·have hn: ¬((((L.length:Nat):Int)==0)=true):=by simpa using h0
   obtain ⟨w1,m,w2,w3,w4⟩:=SZ hs hab.1 hab.2 (by omega) ht hi (by omega) (fun q=>by
    rw [q] at hr
    exact h0 (List.eq_nil_of_length_eq_zero hr.symm))
   refine ⟨⟨i1,fun _=>⟨s1,fun _=>⟨c1,fun _ _=>w1⟩⟩⟩,.inr ⟨hab,m,w2,w3,?_⟩⟩
   rw [if_neg (by decide),if_neg (by decide),if_neg (by decide),if_neg hn,w4]
   refine Prod.ext ?_ rfl
   dsimp only
   rw [Bool.eq_iff_iff,decide_eq_true_eq,decide_eq_true_eq]
   exact T5 L a b
 ·have h1: ¬ ∀p∈ [a,b],fq p:=fun q=>hab ⟨q a (by simp),q b (by simp)⟩
  rw [decide_eq_false h1]
  refine ⟨⟨i1,fun _=>⟨s1,fun q=>absurd rfl q⟩⟩,.inl ⟨hab,?_⟩⟩
  rw [if_neg (by decide),if_pos (by decide)]
def ZP (L:List T3) (dn:Int) (T:List u6):Prop:=dn=0\/ (dn=1/\ T=(bY L).1)
theorem ZP.pick {L:List T3} {dn:Int} {T:List u6} (h:ZP L dn T) (hl:L.length<=500):((decide (dn=0))||(decide (dn=1)))=true/\ jV dn (aK.base.pre L)/\ c5 dn (aK.base.qI L) T=(bY L).1:=by
 rcases h with rfl|⟨rfl,rfl⟩
 ·exact ⟨rfl,fun _=>(jX L hl).1,rfl⟩
 ·exact ⟨rfl,fun h=>absurd h (by decide),rfl⟩
theorem sF (L:List T3) (hl:L.length<=500):iW L/\ mJ L=L:=by
 unfold iW mJ
 refine ⟨fun b hb=> ?_,rfl⟩
 cases b with
 |false=>exact ⟨rfl,fun _=>by omega⟩
 |true=>
  have:L= []:=by
   cases L with
   |nil=>rfl
   |cons x r=>exact absurd (hb (by simp)) (by decide)
  subst this
  exact ⟨rfl,fun q=>absurd rfl q⟩
def jG (L:List T3) (a:P3) (E:List P3):Nat:=E.countP fun p=> !decide (eP L a p)
theorem je {L:List T3} (hl:L.length<=500) (a:P3) {E:List P3} (hE:E.length<=1000):fg (L,(a,E))/\
  ((¬(xC L/\ fq a/\ ∀p∈E,fq p)/\ iK (L,(a,E))=(0,5))\/ ((xC L/\ fq a/\ ∀p∈E,fq p)/\ iK (L,(a,E))=(((jG L a E:Nat):Int),0))):=by
 obtain ⟨g1,g2⟩:=kH L (by omega)
 obtain ⟨c1,c2⟩:=sF L hl
 obtain ⟨s1,s2⟩:=cK [a] (by simp)
 obtain ⟨t1,t2⟩:=cK E (by omega)
 have hb: ¬((L.length:Nat):Int)>500:=by omega
 unfold fg iK az ai
 dsimp only
 rw [if_neg hb,c2]
 by_cases hs:xC L
 rotate_left
 ·have g3:bZ (L,false)=true:=g2.2 hs
  rw [g3]
  exact ⟨fun _=>⟨g1,fun q=>absurd rfl q⟩,.inl ⟨fun q=>hs q.1,rfl⟩⟩
 have g3:bZ (L,false)=false:=by
  cases h:bZ (L,false) with
  |false=>rfl
  |true=>exact absurd hs (g2.1 h)
 rw [g3,if_neg (by decide),s2]
 by_cases ha:fq a
 rotate_left
 ·rw [decide_eq_false (show¬ ∀p∈ [a],fq p from fun q=>ha (q a (by simp)))]
  exact ⟨fun _=>⟨g1,fun _=>⟨c1,s1,fun q=>absurd rfl q⟩⟩,.inl ⟨fun q=>ha q.2.1,rfl⟩⟩
 rw [decide_eq_true (sm1 ha),if_neg (by decide),t2]
 by_cases he: ∀p∈E,fq p
 rotate_left
 ·rw [decide_eq_false he]
  exact ⟨fun _=>⟨g1,fun _=>⟨c1,s1,fun _=>⟨t1,fun q=>absurd rfl q⟩⟩⟩,.inl ⟨fun q=>he q.2.2,rfl⟩⟩
 rw [decide_eq_true he,if_neg (by decide)]
 have key:TR (iL (L,(a,E))) (me (L,(a,E))) (L,(0,([],(0,(0,(0,0)))))) fun r=>r= .inr ((jG L a E:Nat):Int):=by
  refine gN E.length (fun i s=> ∃dn T w v,s=(L,(dn,(T,(w,(v,(((jG L a (E.take i):Nat):Int),(i:Int)))))))/\ ZP L dn T) _ (fun i s hi hJ=> ?_) (fun s hJ=> ?_) ⟨0,[],0,0,rfl,.inl rfl⟩
  ·obtain ⟨dn,T,w,v,rfl,hC⟩:=hJ
   obtain ⟨p1,p2,p3⟩:=hC.pick hl
   have hp:=he _ (l8 hi z3)
   obtain ⟨w1,w2⟩:=pb hs hl a (E.getD i z3)
   rcases w2 with ⟨q,_⟩|⟨_,m,_,_,w2⟩
   ·exact absurd ⟨ha,hp⟩ q
   have aa0:jG L a (E.take (i+1))=jG L a (E.take i)+(if eP L a (E.getD i z3) then 0 else 1):=by
    unfold jG
    rw [jl hi z3,List.countP_append,List.countP_singleton]
    congr 1
    by_cases h:eP L a (E.getD i z3)<;>simp [h]
   have hle:jG L a (E.take i)<=i:=by
    unfold jG
    refine Nat.le_trans List.countP_le_length ?_
    rw [List.length_take];omega
   unfold me iL az ai
   dsimp only
   simp only [Int.toNat_natCast]
   rw [p3]
   refine ⟨fun _=>⟨⟨by omega,by omega⟩,hi,hi,p1,p2,w1⟩,.inl ⟨_,?_,1,(bY L).1,dB (decide (eP L a (E.getD i z3)),((m:Int),0)) w 1,dB (decide (eP L a (E.getD i z3)),((m:Int),0)) v (m:Int),rfl,.inr ⟨rfl,rfl⟩⟩⟩
   rw [if_pos (by omega)]
   have w3:aK.ask L (bY L).1 (a,E.getD i ((0:Int),((0:Int),(0:Int))))=(decide (eP L a (E.getD i z3)),((m:Int),0)):=w2
   rw [w3]
   dsimp only
   rw [if_neg (by decide),aa0]
   have e1:ae ((i:Int)+1)=((i+1:Nat):Int):=by rw [aL (by omega) (by omega)];rfl
   have e2:ae (((jG L a (E.take i):Nat):Int)+1)=((jG L a (E.take i)+1:Nat):Int):=by rw [aL (by omega) (by omega)];rfl
   by_cases h:eP L a (E.getD i z3)
   ·rw [decide_eq_true h,if_neg (by decide),if_pos h,e1];rfl
   ·rw [decide_eq_false h,if_pos (by decide),if_neg h,e1,e2]
  ·obtain ⟨dn,T,w,v,rfl,hC⟩:=hJ
   refine ⟨?_,.inr ((jG L a E:Nat):Int),?_,rfl⟩
   ·unfold me
    intro q
    dsimp only at q;omega
   ·unfold iL
    dsimp only
    rw [if_neg (by omega),List.take_length]
 refine ⟨fun _=>⟨g1,fun _=>⟨c1,s1,fun _=>⟨t1,fun _=>key.1⟩⟩⟩,.inr ⟨⟨hs,ha,he⟩,?_⟩⟩
 rw [key.2]
 rfl
end Go.Proofs.YtlkgabjhkfhgaaaGreat
namespace Go.Proofs.YtlkgabjhkfhgaaaGreat
open Go Go.Ev Go.Proofs
theorem Iw {α β:Type} (v:α) (f:α->β):ai v f=f v:=rfl
theorem OB {α:Type} (v:α) (f:α->Prop):az v f=f v:=rfl
abbrev L1:List T3:= [((0,(0,0)),((4,(0,0)),(0,(4,0))))]
abbrev a1:P3:=(1,(1,-1))
theorem LI:xC L1:=by
 intro t ht p hp
 rw [List.mem_singleton] at ht
 subst ht
 simp only [C5,List.mem_cons,List.not_mem_nil,or_false] at hp
 rcases hp with rfl|rfl|rfl<;>decide
theorem Wg:(bY L1).1.length=1:=by
 obtain ⟨_,b2⟩:=jX L1 (by decide)
 rcases b2 with ⟨q,_⟩|⟨_,G,N,U,e,hG,ht⟩
 ·exact absurd LI q
 rw [e]
 have ht:iU L1 0 (-1) [0] G N U:=ht
 cases ht with
 |leaf=>rfl
 |fork _ _ _ _ _ _ _ _ _ _ _ h=>exact absurd h (by decide)
theorem LJ {b:P3} (hb:fq b):jm ((bY L1).1,(L1,(a1,b)))/\ xx ((bY L1).1,(L1,(a1,b)))=(decide (eP L1 a1 b),(1,0)):=by
 obtain ⟨w1,w2⟩:=pb LI (by decide) a1 b
 refine ⟨w1,?_⟩
 rcases w2 with ⟨q,_⟩|⟨_,m,h1,h2,e⟩
 ·exact absurd ⟨by decide,hb⟩ q
 ·rw [Wg] at h2
  have:m=1:=by omega
  subst this
  exact e
theorem VV:eP L1 a1 (1,(1,1)):=⟨_,List.mem_singleton.2 rfl,by decide⟩
theorem YR: ¬eP L1 a1 (1,(1,-2)):=fun ⟨t,h,q⟩=>by
 rw [List.mem_singleton] at h
 subst h
 exact absurd q (by decide)
theorem YQ: ¬eP L1 a1 a1:=fun ⟨t,h,q⟩=>by
 rw [List.mem_singleton] at h
 subst h
 exact absurd q (by decide)
theorem kX (x:Bool):bE x/\ cU x=true:=by
 obtain ⟨g1,g2⟩:=kH L1 (by decide)
 have g3:bZ (L1,false)=false:=by
  cases h:bZ (L1,false) with
  |false=>rfl
  |true=>exact absurd LI (g2.1 h)
 obtain ⟨c1,c2⟩:=sF L1 (by decide)
 have b1:=(jX L1 (by decide)).1
 obtain ⟨w1,w2⟩:=LJ (b:=(1,(1,1))) (by decide)
 obtain ⟨v1,v2⟩:=LJ (b:=(1,(1,-2))) (by decide)
 rw [decide_eq_true VV] at w2
 rw [decide_eq_false YR] at v2
 obtain ⟨o1,o2⟩:=je (L:=L1) (by decide) a1 (E:= [(1,(1,1)),(1,(1,-1))]) (by decide)
 obtain ⟨p1,p2⟩:=je (L:=L1) (by decide) (16385,(0,0)) (E:= []) (by decide)
 have o3:iK (L1,(a1,[(1,(1,1)),(1,(1,-1))]))=(1,0):=by
  rcases o2 with ⟨q,_⟩|⟨_,e⟩
  ·exact absurd ⟨LI,by decide,sm2 (by decide) (by decide)⟩ q
  ·rw [e]
   unfold jG
   rw [List.countP_cons,List.countP_cons,List.countP_nil,decide_eq_true VV,decide_eq_false YQ]
   rfl
 have p3:iK (L1,((16385,(0,0)),[]))=(0,5):=by
  rcases p2 with ⟨_,e⟩|⟨q,_⟩
  ·exact e
  ·exact absurd q.2.1 (by decide)
 have k0:c5 0 (aK.base.qI L1) []=(bY L1).1:=rfl
 have k1:c5 1 (aK.base.qI L1) (bY L1).1=(bY L1).1:=rfl
 have w3:aK.ask L1 (bY L1).1 (a1,(1,(1,1)))=(true,(1,0)):=w2
 have v3:aK.ask L1 (bY L1).1 (a1,(1,(1,-2)))=(false,(1,0)):=v2
 constructor
 ·unfold bE
  refine ⟨g1,?_⟩
  rw [OB,g3]
  intro _
  refine ⟨c1,?_⟩
  rw [OB,c2]
  refine ⟨fun _=>b1,?_⟩
  rw [OB,k0]
  refine ⟨w1,?_⟩
  rw [OB,w3,OB,OB]
  refine ⟨fun h=>absurd h (by decide),?_⟩
  rw [OB,k1]
  refine ⟨v1,?_⟩
  rw [OB,v3,OB,OB]
  refine ⟨o1,?_⟩
  rw [OB]
  exact p1
 ·unfold cU
  rw [Iw,g3,if_neg (by decide),Iw,c2,Iw,k0,Iw,w3,Iw,Iw,Iw,k1,Iw,v3,Iw,Iw,Iw,o3,Iw,p3]
  rfl
end Go.Proofs.YtlkgabjhkfhgaaaGreat
