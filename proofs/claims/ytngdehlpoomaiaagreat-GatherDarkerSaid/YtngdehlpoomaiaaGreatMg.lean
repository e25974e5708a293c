/- Plain laws: what is built of triangles; the document's rows. -/
import Derived.Test.YtngdehlpoomaiaaGreatVf
import Derived.Test.YtngdehlpoomaiaaGreatLm
import Derived.Test.YtngdehlpoomaiaaGreatYd
noncomputable section
set_option linter.unusedSectionVars false
set_option linter.unusedVariables false
set_option linter.unusedSimpArgs false
namespace Go.Proofs.YtngdehlpoomaiaaGreat
open Go Go.Ev Go.Proofs
theorem ye (t:T3):yf t/\ (BQ t=true↔ ¬ ∀p∈Kz t,fM p):=by
 obtain ⟨s1,s2⟩:=fX [t.1,t.2.1,t.2.2] (by simp)
 refine ⟨s1,?_⟩
 unfold BQ aj
 rw [s2,Bool.not_eq_true',decide_eq_false_iff_not]
 exact Iff.rfl
theorem R3 (L:List T3) (hl:L.length<4611686018427387904):yd L/\ (BP L=true↔yA L):=by
 have hh:=ot L hl BQ (iF (L,false)) (qd (L,false)) (fun i hi=>by
   unfold qd
   intro h
   simp only [Int.toNat_natCast]
   dsimp only at h ⊢
   exact ⟨by omega,by omega,by omega,(ye _).1⟩) (fun i x hx=>by
   have hlt:=dA hx
   unfold iF aj
   dsimp only
   rw [if_pos (by omega),Int.toNat_natCast,iW hx]) (by
   unfold iF
   dsimp only
   rw [if_neg (by omega)])
 refine ⟨hh.1,?_⟩
 have e:Q9 (L,false)=_:=hh.2
 unfold BP A9 aj
 dsimp only
 rw [e]
 have e2:=tO L BQ
 refine (iff_of_eq (congrArg (fun b:Bool=>(!b)=true) e2)).trans ?_
 rw [Bool.not_eq_true',List.any_eq_false]
 unfold yA
 constructor
 ·intro h t ht
  have:=h t ht
  rw [(ye t).2] at this
  exact Classical.byContradiction this
 ·intro h t ht
  rw [(ye t).2]
  exact fun q=>q (h t ht)
def HE (n:Nat):List Int:=(List.range n).map fun (i:Nat)=>(i:Int)
theorem zU (n:Nat):(HE n).length=n:=by simp [HE]
theorem aar (n:Nat):HE (n+1)=HE n++ [(n:Int)]:=by simp [HE,List.range_succ]
theorem zV (n:Nat) (x:Int):x∈HE n↔0<=x/\ x<(n:Int):=by
 simp only [HE,List.mem_map,List.mem_range]
 constructor
 ·rintro ⟨a,ha,rfl⟩;omega
 ·rintro ⟨h1,h2⟩;exact ⟨x.toNat,by omega,by omega⟩
theorem WB (n:Nat):(HE n).Nodup:=by
 unfold HE
 rw [List.nodup_iff_pairwise_ne,List.pairwise_map]
 exact (List.nodup_iff_pairwise_ne.1 List.nodup_range).imp fun h e=>h (by omega)
theorem Qk (L:List T3) (hl:L.length<=1000):TR (fA L) (lG L) (List.replicate L.length 0,0) fun r=>r=HE L.length:=by
 have hrl:(List.replicate L.length (0:Int)).length=L.length:=List.length_replicate
 refine eS L.length (fun i s=>s=(HE i++List.replicate (L.length- i) 0,(i:Int))) _ (fun i s hi hJ=> ?_) (fun s hJ=> ?_) (by simp [HE])
 ·subst hJ
  have hlen:(HE i++List.replicate (L.length- i) (0:Int)).length=L.length:=by rw [List.length_append,zU,List.length_replicate];omega
  have Zg:(HE i++List.replicate (L.length- i) (0:Int)).set i (i:Int)=HE (i+1)++List.replicate (L.length- (i+1)) 0:=by
   have e:L.length- i=(L.length- (i+1))+1:=by omega
   rw [e,List.replicate_succ,aar]
   have:=L8 (HE i) (List.replicate (L.length- (i+1)) (0:Int)) 0 (i:Int)
   rw [zU] at this
   rw [this];simp
  refine ⟨?_,.inl ⟨_,?_,rfl⟩⟩
  ·unfold lG
   intro _
   dsimp only
   rw [Int.toNat_natCast,hlen];omega
  ·unfold fA aj
   dsimp only
   rw [hrl,if_pos (by omega),Int.toNat_natCast,Zg,UP hi (by omega)]
 ·subst hJ
  refine ⟨?_,HE L.length++List.replicate (L.length- L.length) 0,?_,by simp⟩
  ·unfold lG
   intro q
   dsimp only at q
   rw [hrl] at q;omega
  ·unfold fA
   dsimp only
   rw [hrl,if_neg (by omega)]
theorem Eu (L:List T3) (hl:L.length<=12):kU L/\ ((¬yA L/\ iu L=([],5))\/ (yA L/\ ∃G N U,iu L=(G,0)/\ G.length<=1000/\ jZ L 0 (-1) (HE L.length) G N U)):=by
 obtain ⟨s1,s2⟩:=R3 L (by omega)
 have k:=Qk L (by omega)
 have hi:Mm L (HE L.length):=fun i h=>(zV _ _).1 h
 obtain ⟨g1,G,N,U,g2,g3,g4⟩:=Vq (L:=L) (pl:=HE L.length) [] hi (by rw [zU];omega) (by simp)
 have hb: ¬((L.length:Nat):Int)>500:=by omega
 unfold kU iu aB aj
 rw [if_neg hb]
 cases hs:BP L with
 |false=>
  exact ⟨fun _=>⟨s1,fun q=>absurd (by decide) q⟩,.inl ⟨fun q=>(by rw [s2.2 q] at hs;cases hs),rfl⟩⟩
 |true=>
  dsimp only
  rw [if_neg (by decide),k.2]
  rw [zU] at g3
  refine ⟨fun _=>⟨s1,fun _=>⟨⟨by omega,by omega⟩,k.1,g1⟩⟩,.inr ⟨s2.1 hs,G,N,U,?_,by omega,g4⟩⟩
  rw [g2];rfl
end Go.Proofs.YtngdehlpoomaiaaGreat
namespace Go.Proofs.YtngdehlpoomaiaaGreat
open Go Go.Ev Go.Proofs
def jy (L:List T3) (a b:P3):Prop:= ∃t∈L,KM a b t
instance (L:List T3) (a b:P3):Decidable (jy L a b):=by unfold jy;infer_instance
theorem acX (L:List T3) (a b:P3):mQ L a b (HE L.length)↔jy L a b:=by
 constructor
 ·rintro ⟨i,h1,h2⟩
  have h:=(zV _ _).1 h1
  exact ⟨_,jr (show i.toNat<L.length by omega) zT,h2⟩
 ·rintro ⟨t,h1,h2⟩
  obtain ⟨i,hi,rfl⟩:=List.mem_iff_getElem.1 h1
  refine ⟨(i:Int),(zV _ _).2 ⟨by omega,by omega⟩,?_⟩
  rw [Int.toNat_natCast,List.getD_eq_getElem?_getD,List.getElem?_eq_getElem hi]
  exact h2
theorem Lf (t:T3):EO t/\ (Vd t=true↔ ¬ ∀p∈Kz t,fM p):=by
 obtain ⟨s1,s2⟩:=fX [t.1,t.2.1,t.2.2] (by simp)
 refine ⟨s1,?_⟩
 unfold Vd aj
 rw [s2]
 show (!decide (∀p∈Kz t,fM p))=true↔_
 simp
theorem wS (L:List T3) (hl:L.length<4611686018427387904):pU (L,false)/\ (kX (L,false)=true↔ ¬yA L):=by
 have hh:=ot L hl Vd (iD (L,false)) (qb (L,false)) (fun i hi=>by
   unfold qb
   intro h
   simp only [Int.toNat_natCast]
   dsimp only at h ⊢
   exact ⟨by omega,by omega,by omega,(Lf _).1⟩) (fun i x hx=>by
   have hlt:=dA hx
   unfold iD aj
   dsimp only
   rw [if_pos (by omega),Int.toNat_natCast,iW hx]) (by
   unfold iD
   dsimp only
   rw [if_neg (by omega)])
 refine ⟨hh.1,?_⟩
 have e:Q7 (L,false)=_:=hh.2
 unfold kX aj
 dsimp only
 rw [e]
 refine (iff_of_eq (congrArg (fun b:Bool=>b=true) (tO L Vd))).trans ?_
 rw [List.any_eq_true]
 unfold yA
 constructor
 ·rintro ⟨t,h1,h2⟩ h3
  exact (Lf t).2.1 h2 (h3 t h1)
 ·intro h
  refine Classical.byContradiction fun h2=>h fun t ht=>Classical.byContradiction fun h3=>h2 ⟨t,ht,(Lf t).2.2 h3⟩
theorem wT (L:List T3) (hl:L.length<4611686018427387904):bJ (L,false)/\ (bA (L,false)=true↔ ¬yA L):=wS L hl
theorem KG {L:List T3} (hs:yA L) (hl:L.length<=12) (a b:P3):rh ((iu L).1,L,a,b)/\
  ((¬(fM a/\ fM b)/\ KF ((iu L).1,L,a,b)=(false,0,5))\/ ((fM a/\ fM b)/\ ∃m:Nat,1<=m/\ m<=(iu L).1.length/\ KF ((iu L).1,L,a,b)=(decide (jy L a b),(m:Int),0))):=by
 obtain ⟨_,b2⟩:=Eu L hl
 rcases b2 with ⟨q,_⟩|⟨_,G,N,U,e,hG,ht⟩
 ·exact absurd hs q
 rw [e]
 dsimp only
 have hi:Mm L (HE L.length):=fun i h=>(zV _ _).1 h
 have hr:=zU L.length
 obtain ⟨i1,i2⟩:=adk ht hi hs (by omega) (by omega) (by omega) (WB _) (fun j hj=>(zV _ _).2 ⟨by omega,by omega⟩)
 obtain ⟨s1,s2⟩:=fX [a,b] (by simp)
 obtain ⟨c1,c2⟩:=wS L (by omega)
 have c3:kX (L,false)=false:=by
  cases h:kX (L,false) with
  |false=>rfl
  |true=>exact absurd hs (c2.1 h)
 unfold rh KF aB aj
 dsimp only
 rw [i2,c3,s2]
 by_cases hab:fM a/\ fM b
 ·have h1: ∀p∈ [a,b],fM p:=sm2 hab.1 hab.2
  rw [decide_eq_true h1]
  by_cases h0:L= []
  ·subst h0
   refine ⟨⟨i1,fun _=>⟨s1,fun _=>⟨c1,fun _ q=>absurd rfl q⟩⟩⟩,.inr ⟨hab,1,Nat.le_refl _,ht.facts.pos,?_⟩⟩
   rw [if_neg (by decide),if_neg (by decide),if_neg (by decide),if_pos (by rfl)]
   refine Prod.ext ?_ rfl
   exact (decide_eq_false (show¬jy [] a b from fun ⟨t,h,_⟩=>by cases h)).symm
  ·have hn: ¬((((L.length:Nat):Int)==0)=true):=by simpa using h0
   obtain ⟨w1,m,w2,w3,w4⟩:=abl hs hab.1 hab.2 (by omega) ht hi (by omega) (fun q=>by
    rw [q] at hr
    exact h0 (List.eq_nil_of_length_eq_zero hr.symm))
   refine ⟨⟨i1,fun _=>⟨s1,fun _=>⟨c1,fun _ _=>w1⟩⟩⟩,.inr ⟨hab,m,w2,w3,?_⟩⟩
   rw [if_neg (by decide),if_neg (by decide),if_neg (by decide),if_neg hn,w4]
   refine Prod.ext ?_ rfl
   dsimp only
   rw [Bool.eq_iff_iff,decide_eq_true_eq,decide_eq_true_eq]
   exact acX L a b
 ·have h1: ¬ ∀p∈ [a,b],fM p:=fun q=>hab ⟨q a (by simp),q b (by simp)⟩
  rw [decide_eq_false h1]
  refine ⟨⟨i1,fun _=>⟨s1,fun q=>absurd rfl q⟩⟩,.inl ⟨hab,?_⟩⟩
  rw [if_neg (by decide),if_pos (by decide)]
def Xg (L:List T3) (dn:Int) (T:List vy):Prop:=dn=0\/ (dn=1/\ T=(iu L).1)
theorem Xg.pick {L:List T3} {dn:Int} {T:List vy} (h:Xg L dn T) (hl:L.length<=12):((decide (dn=0))||(decide (dn=1)))=true/\ xb dn (cn.base.pre L)/\ jR dn (cn.base.KX L) T=(iu L).1:=by
 rcases h with rfl|⟨rfl,rfl⟩
 ·exact ⟨rfl,fun _=>(Eu L hl).1,rfl⟩
 ·exact ⟨rfl,fun h=>absurd h (by decide),rfl⟩
theorem nH (L:List T3) (hl:L.length<=500):cO L/\ dF L=L:=by
 unfold cO dF
 refine ⟨fun b hb=> ?_,rfl⟩
 cases b with
 |false=>exact ⟨rfl,fun _=>by omega⟩
 |true=>
  have:L= []:=by
   cases L with
   |nil=>rfl
   |cons x r=>exact absurd (hb (by simp)) (by decide)
  subst this
  exact ⟨rfl,fun q=>absurd rfl q⟩
end Go.Proofs.YtngdehlpoomaiaaGreat
namespace Go.Proofs.YtngdehlpoomaiaaGreat
open Go Go.Ev Go.Proofs
def Ri (u w:P3):Int:=aY (aT (yQ u w) 0 / 1024) 1024
theorem Td (u w:P3):0<=Ri u w/\ Ri u w<=1024:=by
 unfold Ri aY aT
 split<;>split<;>omega
theorem U3.nr {u:P3} (h:U3 u):Nr u:=⟨by have:=h.1;omega,by have:=h.2.1;omega,by have:=h.2.2;omega⟩
theorem Cp {u w:P3} (hu:U3 u) (hw:U3 w):ke (u,w)/\ tQ (u,w)=(Ri u w,0):=by
 obtain ⟨d1,d2⟩:=Hh hu.nr hw.nr
 obtain ⟨a1,a2,a3⟩:=hu
 obtain ⟨b1,b2,b3⟩:=hw
 have m1:=mb (A:=1024) (by decide) a1 b1
 have m2:=mb (A:=1024) (by decide) a2 b2
 have m3:=mb (A:=1024) (by decide) a3 b3
 have n1: ¬(aY (aY (aY (aY (aY u.1 u.2.1) u.2.2) w.1) w.2.1) w.2.2)< -2048:=by
  simp only [aY]
  repeat' split
  all_goals omega
 have n2: ¬(aT (aT (aT (aT (aT u.1 u.2.1) u.2.2) w.1) w.2.1) w.2.2)>2048:=by
  simp only [aT]
  repeat' split
  all_goals omega
 have hm:0<=aT (yQ u w) 0/\ aT (yQ u w) 0<=3145728:=by
  unfold aT yQ
  split<;>omega
 unfold ke tQ aj
 dsimp only
 rw [if_neg n1,if_neg n2,d2]
 refine ⟨fun _ _=>d1,?_⟩
 dsimp only
 rw [Int.tdiv_eq_ediv_of_nonneg hm.1,aC (by omega) (by omega)]
 rfl
def ng (v:P3):P3:=(-v.1,-v.2.1,-v.2.2)
theorem U3.ng {u:P3} (h:U3 u):U3 (ng u):=⟨by have:=h.1;unfold Go.Proofs.YtngdehlpoomaiaaGreat.ng;dsimp only;omega,by have:=h.2.1;unfold Go.Proofs.YtngdehlpoomaiaaGreat.ng;dsimp only;omega,by have:=h.2.2;unfold Go.Proofs.YtngdehlpoomaiaaGreat.ng;dsimp only;omega⟩
theorem SJ {u:P3} (h:U3 u):Jf u=ng u:=by
 have a:=h.1
 have b:=h.2.1
 have c:=h.2.2
 unfold Jf ng
 rw [aC (n:=0- u.1) (by omega) (by omega),aC (n:=0- u.2.1) (by omega) (by omega),aC (n:=0- u.2.2) (by omega) (by omega)]
 simp
def mF (l:qw) (p:P3):P3×(P3×Int):=
 if l.1=1 then (ng (cK l.2.2.1),(p.1+4*(ng (cK l.2.2.1)).1,p.2.1+4*(ng (cK l.2.2.1)).2.1,p.2.2+4*(ng (cK l.2.2.1)).2.2),0)
 else if sb l.2.1 p=(0,0,0) then ((0,0,0),(0,0,0),3) else (cK (sb l.2.1 p),l.2.1,0)
def Pt8 (p:P3):Prop:=(-8192<=p.1/\ p.1<=8192)/\ (-8192<=p.2.1/\ p.2.1<=8192)/\ (-8192<=p.2.2/\ p.2.2<=8192)
theorem YB {l:qw} {p:P3} (hl:fu l) (hp:Pt8 p):qN (l,p)/\ N0 (l,p)=if sb l.2.1 p=(0,0,0) then ((0,0,0),(0,0,0),3) else (cK (sb l.2.1 p),l.2.1,0):=by
 obtain ⟨s1,_⟩:=hl.2.2.2.1
 have p1:=hp.1
 have p2:=hp.2.1
 have p3:=hp.2.2
 have e:(au (l.2.1.1- p.1),au (l.2.1.2.1- p.2.1),au (l.2.1.2.2- p.2.2))=sb l.2.1 p:=by
  unfold sb
  rw [aC (n:=l.2.1.1- p.1) (by omega) (by omega),aC (n:=l.2.1.2.1- p.2.1) (by omega) (by omega),aC (n:=l.2.1.2.2- p.2.2) (by omega) (by omega)]
 unfold qN N0 aj
 dsimp only
 rw [e]
 by_cases h0:sb l.2.1 p=(0,0,0)
 ·rw [if_pos h0,h0]
  obtain ⟨u1,u2⟩:=KA
  rw [u2]
  exact ⟨u1,rfl⟩
 ·have hn:Nr (sb l.2.1 p):=by unfold sb;exact ⟨by dsimp only;omega,by dsimp only;omega,by dsimp only;omega⟩
  obtain ⟨u1,u2,_,_⟩:=gW hn h0
  rw [if_neg h0,u2]
  exact ⟨u1,rfl⟩
theorem aay {p:P3} (h:fM p):Nr p:=⟨by omega,by omega,by omega⟩
theorem UD {l:qw} {p:P3} (hl:fu l) (hd:l.2.2.1≠(0,0,0)) (hp:Pt8 p):rV (l,p)/\ LH (l,p)=(ng (cK l.2.2.1),(p.1+4*(ng (cK l.2.2.1)).1,p.2.1+4*(ng (cK l.2.2.1)).2.1,p.2.2+4*(ng (cK l.2.2.1)).2.2),0):=by
 obtain ⟨_,s1⟩:=hl.2.2.2.1
 obtain ⟨u1,u2,u3,_⟩:=gW (aay s1) hd
 have g:=u3.ng
 have g1:=g.1
 have g2:=g.2.1
 have g3:=g.2.2
 have p1:=hp.1
 have p2:=hp.2.1
 have p3:=hp.2.2
 unfold rV LH aj
 dsimp only
 rw [u2]
 dsimp only
 rw [SJ u3]
 generalize ng (cK l.2.2.1)=w at*
 rw [aC (n:=4*w.1) (by omega) (by omega),aC (n:=4*w.2.1) (by omega) (by omega),aC (n:=4*w.2.2) (by omega) (by omega),aC (n:=p.1+4*w.1) (by omega) (by omega),aC (n:=p.2.1+4*w.2.1) (by omega) (by omega),aC (n:=p.2.2+4*w.2.2) (by omega) (by omega)]
 exact ⟨u1,rfl⟩
theorem BK {l:qw} (hl:fu l) (h:l.1≠2):l.2.2.1≠(0,0,0):=hl.2.2.2.2.resolve_left h
theorem G5 {l:qw} {p:P3} (hl:fu l) (hp:Pt8 p):mq (l,p)/\ rZ (l,p)=mF l p:=by
  obtain ⟨r1,r2⟩:=BL l
  obtain ⟨f1,f2⟩:=YB hl hp
  have p1:=hp.1
  have p2:=hp.2.1
  have p3:=hp.2.2
  have hk:=hl.1
  have n1: ¬aY (aY p.1 p.2.1) p.2.2< -8192:=by          simp only [aY];repeat' split
                                                        all_goals omega
  have n2: ¬aT (aT p.1 p.2.1) p.2.2>8192:=by           simp only [aT];repeat' split
                                                       all_goals omega
  unfold mq rZ aB aj mF
  dsimp only
  rw [r2,decide_eq_true hl]
  rw [if_neg (by decide),if_neg n1,if_neg n2]
  by_cases k3:l.1=3
  · rw [if_pos k3,if_neg (by omega)]
    exact ⟨⟨r1,fun _ _ _=>⟨by omega,fun _=>f1,fun h=>absurd k3 h⟩⟩,f2⟩
  rw [if_neg k3]
  by_cases k2:l.1=2
  · rw [if_pos k2,if_neg (by omega)]
    exact ⟨⟨r1,fun _ _ _=>⟨by omega,fun _=>f1,fun _=>⟨fun _=>f1,fun h=>absurd k2 h⟩⟩⟩,f2⟩
  have k1:l.1=1:=by omega
  obtain ⟨a1,a2⟩:=UD hl (BK hl k2) hp
  rw [if_neg k2,if_pos k1,if_pos k1]
  exact ⟨⟨r1,fun _ _ _=>⟨by omega,fun h=>absurd h k3,fun _=>⟨fun h=>absurd h k2,fun _=>⟨fun _=>a1,fun h=>absurd k1 h⟩⟩⟩⟩,a2⟩
theorem Ky {l:qw} {p:P3} (hl:fu l) (hp:Pt8 p):((mF l p).2.2=3/\ mF l p=((0,0,0),(0,0,0),3))\/ ((mF l p).2.2=0/\ U3 (mF l p).1/\ fM (mF l p).2.1):=by
 obtain ⟨s1,s2⟩:=hl.2.2.2.1
 have p1:=hp.1
 have p2:=hp.2.1
 have p3:=hp.2.2
 unfold mF
 by_cases k1:l.1=1
 ·obtain ⟨u1,u2,u3,_⟩:=gW (aay s2) (BK hl (by omega))
  have g:=u3.ng
  have g1:=g.1
  have g2:=g.2.1
  have g3:=g.2.2
  rw [if_pos k1]
  refine .inr ⟨rfl,g,?_⟩
  exact ⟨by dsimp only;omega,by dsimp only;omega,by dsimp only;omega⟩
 rw [if_neg k1]
 by_cases h0:sb l.2.1 p=(0,0,0)
 ·rw [if_pos h0];exact .inl ⟨rfl,rfl⟩
 ·have hn:Nr (sb l.2.1 p):=by unfold sb;exact ⟨by dsimp only;omega,by dsimp only;omega,by dsimp only;omega⟩
  obtain ⟨u1,u2,u3,_⟩:=gW hn h0
  rw [if_neg h0]
  exact .inr ⟨rfl,u3,s1⟩
def Sw (l:qw) (w:P3):Prop:=l.1=3/\ Ri (cK l.2.2.1) (ng w)<l.2.2.2.2
instance (l:qw) (w:P3):Decidable (Sw l w):=Classical.propDecidable _
theorem Ya {l:qw} {w:P3} (hl:fu l) (hw:U3 w):vY (l,w)/\ NW (l,w)=decide (Sw l w):=by
 obtain ⟨s1,s2⟩:=hl.2.2.2.1
 unfold vY NW aB aj
 dsimp only
 by_cases k3:l.1=3
 rotate_left
 ·rw [if_pos (by simpa using k3)]
  exact ⟨fun h=>absurd (by simpa using k3) h,(decide_eq_false fun h=>k3 h.1).symm⟩
 obtain ⟨u1,u2,u3,_⟩:=gW (aay s2) (BK hl (by omega))
 obtain ⟨m1,m2⟩:=Cp u3 hw.ng
 rw [if_neg (by simp [k3]),u2]
 dsimp only
 rw [SJ hw,m2]
 refine ⟨fun _=>⟨u1,m1⟩,?_⟩
 rw [Bool.eq_iff_iff,decide_eq_true_iff,decide_eq_true_iff]
 exact ⟨fun h=>⟨k3,h⟩,fun h=>h.2⟩
def RZ (l:qw) (p n:P3):Int:=if (mF l p).2.2=0 then (if Sw l (mF l p).1 then 0 else Ri (cK n) (mF l p).1*l.2.2.2.1 / 1024) else 0
theorem alJ {l:qw} (hl:fu l) (p n:P3):0<=RZ l p n/\ RZ l p n<=255:=by
 have hp:=hl.2.1
 obtain ⟨k1,k2⟩:=Td (cK n) (mF l p).1
 unfold RZ
 split
 ·split
  ·omega
  ·have h1:=Int.mul_nonneg k1 hp.1
   have h2:=wK (A:=1024) (B:=255) (by omega) k2 (by omega) hp.2
   omega
 ·omega
theorem JM {l:qw} {p n:P3} (hl:fu l) (hp:Pt8 p) (hn:Nr n) (h0:n≠(0,0,0)):ow (l,p,n)/\ xX (l,p,n)=(RZ l p n,0):=by
 obtain ⟨t1,t2⟩:=G5 hl hp
 obtain ⟨u1,u2,u3,_⟩:=gW hn h0
 unfold ow xX aB aj RZ
 dsimp only
 rw [t2]
 rcases Ky hl hp with ⟨e,he⟩|⟨e,hu,hs⟩
 ·rw [if_neg (by simp [e]),if_pos (by simp [e]),if_neg (by omega)]
  exact ⟨⟨t1,fun h=>absurd h (by simp [e])⟩,rfl⟩
 obtain ⟨d1,d2⟩:=Ya hl hu
 obtain ⟨m1,m2⟩:=Cp u3 hu
 rw [if_pos (by simp [e]),if_pos e,u2]
 dsimp only
 rw [if_neg (by decide),d2]
 refine ⟨⟨t1,fun _=>⟨u1,fun _=>⟨d1,fun _=>m1⟩⟩⟩,?_⟩
 by_cases hd:Sw l (mF l p).1
 ·rw [decide_eq_true hd,if_pos rfl,if_pos hd]
 ·rw [decide_eq_false hd,if_neg (by decide),if_neg hd,m2]
  have hpw:=hl.2.1
  obtain ⟨k1,k2⟩:=Td (cK n) (mF l p).1
  have h1:=Int.mul_nonneg k1 hpw.1
  have h2:=wK (A:=1024) (B:=255) (by omega) k2 (by omega) hpw.2
  dsimp only
  rw [aC (n:=Ri (cK n) (mF l p).1*l.2.2.2.1) (by omega) (by omega),Int.tdiv_eq_ediv_of_nonneg h1,aC (by omega) (by omega)]
def oS (x:Int):Int:=aY (aT x 0) 255
theorem X2 (x:Int):0<=oS x/\ oS x<=255:=by unfold oS aY aT;split<;>split<;>omega
def mU (L:List Int):Int:=(L.map oS).sum
def qt (L:List Int):Int:=aY (mU L) 255
theorem yJ (L:List Int):0<=mU L:=by
 unfold mU
 induction L with
 |nil=>simp
 |cons x r ih=>have:=(X2 x).1;simp only [List.map_cons,List.sum_cons];omega
theorem j7 (L M:List Int):mU (L++M)=mU L+mU M:=by unfold mU;simp
theorem FA (L:List Int) (hl:L.length<4611686018427387904):qO L/\ V4 L=qt L:=by
 have key:TR (kA L) (pH L) (0,0) fun r=>r=qt L:=by
  refine eS L.length (fun i s=>s=(qt (L.take i),(i:Int))) _ (fun i s hi hJ=> ?_) (fun s hJ=> ?_) (by simp [qt,mU,aY])
  ·subst hJ
   unfold pH kA
   dsimp only
   simp only [Int.toNat_natCast]
   refine ⟨fun _=>⟨⟨by omega,by omega⟩,hi,hi⟩,.inl ⟨_,by rw [if_pos (by omega)],?_⟩⟩
   have e:qt (L.take (i+1))=aY (qt (L.take i)+oS (L.getD i 0)) 255:=by
    rw [fI hi 0]
    unfold qt
    rw [j7]
    have h1:=yJ (L.take i)
    have h2:=X2 (L.getD i 0)
    have h3:mU [L.getD i 0]=oS (L.getD i 0):=by simp [mU]
    rw [h3]
    unfold aY
    split<;>split<;>(try split)<;>omega
   have hb:0<=qt (L.take i)/\ qt (L.take i)<=255:=by
    have h1:=yJ (L.take i)
    unfold qt aY
    split<;>omega
   have h2:=X2 (L.getD i 0)
   rw [e,aC (n:=(i:Int)+1) (by omega) (by omega)]
   have e2:au (qt (L.take i)+aY (aT (L.getD i 0) 0) 255)=qt (L.take i)+oS (L.getD i 0):=aC (by show _<=_+oS _;omega) (by show _+oS _<=_;omega)
   rw [e2]
   rfl
  ·subst hJ
   refine ⟨?_,_,?_,rfl⟩
   ·unfold pH
    intro q
    dsimp only at q;omega
   ·unfold kA
    dsimp only
    rw [if_neg (by omega),List.take_length]
 unfold qO V4 aj
 exact ⟨key.1,key.2⟩
end Go.Proofs.YtngdehlpoomaiaaGreat
namespace Go.Proofs.YtngdehlpoomaiaaGreat
open Go Go.Ev Go.Proofs
def jQ (L:List T3) (a:P3) (E:List P3):Nat:=E.countP fun p=> !decide (jy L a p)
def A4 (p:P3):Prop:=(-4224<=p.1/\ p.1<=4224)/\ (-4224<=p.2.1/\ p.2.1<=4224)/\ (-4224<=p.2.2/\ p.2.2<=4224)
theorem A4.sm {p:P3} (h:A4 p):fM p:=by
 obtain ⟨a,b,c⟩:=h
 exact ⟨by omega,by omega,by omega⟩
theorem A4.p8 {p:P3} (h:A4 p):Pt8 p:=by
 obtain ⟨a,b,c⟩:=h
 exact ⟨by omega,by omega,by omega⟩
theorem A4.nr {p:P3} (h:A4 p):Nr p:=by
 obtain ⟨a,b,c⟩:=h
 exact ⟨by omega,by omega,by omega⟩
theorem M8 {k:Int} {bz n:P3} {len:Int} {e:P3} (he:e∈eu k bz n len): ∃d,InD d/\ e=rz bz (m0 n d) len:=by
 unfold eu at he
 obtain ⟨d,hd,rfl⟩:=List.mem_map.1 he
 exact ⟨d,Xp d (List.mem_of_mem_take hd),rfl⟩
theorem qF {k:Int} (hk:0<=k/\ k<=24) (bz n:P3) (len:Int):((eu k bz n len).length:Int)=k:=by
 unfold eu
 rw [List.length_map,List.length_take,Sv];omega
theorem acm {k:Int} {bz n:P3} {len:Int} (ha:A4 bz) (hn:Nr n) (h0:n≠(0,0,0)) (hl:0<=len/\ len<=2048): ∀e∈eu k bz n len,fM e:=by
 intro e he
 obtain ⟨d,hd,rfl⟩:=M8 he
 obtain ⟨_,_,w⟩:=xK hn h0 hd
 obtain ⟨a,b,c⟩:=ha
 obtain ⟨_,_,x1,x2⟩:=qA w.1 hl
 obtain ⟨_,_,y1,y2⟩:=qA w.2.1 hl
 obtain ⟨_,_,z1,z2⟩:=qA w.2.2 hl
 unfold rz
 exact ⟨by dsimp only;omega,by dsimp only;omega,by dsimp only;omega⟩
abbrev ahI:Type:=List T3×(List vy×List qw×(Int×Int×Int)×(Int×Int×Int×Int)×P3×P3)
theorem MJ (x:ahI) {L:List T3} (hs:yA L) (hl:L.length<=12) (hL:x.1=L) {bz:P3} (aR:x.2.2.2.2.2.1=bz) (ha:fM bz) {E:List P3} (hE: ∀e∈E,fM e) (hEl:E.length<=1000) {dn:Int} {T:List vy} (hC:Xg L dn T) (w v:Int):
  TR (dh x) (hY x) (dn,T,w,v,E,0,((E.length:Nat):Int),0) fun r=> ∃Mp T' w' v',r=(Mp,T',w',v',E,((jQ L bz E:Nat):Int))/\ Xg L Mp T':=by
 refine eS E.length (fun i s=> ∃dn T w v,s=(dn,T,w,v,E,((jQ L bz (E.take i):Nat):Int),((E.length:Nat):Int),(i:Int))/\ Xg L dn T) _ (fun i s hi hJ=> ?_) (fun s hJ=> ?_) ⟨dn,T,w,v,rfl,hC⟩
 ·obtain ⟨dn,T,w,v,rfl,hC⟩:=hJ
  obtain ⟨p1,p2,p3⟩:=hC.pick hl
  have hp:=hE _ (jr hi z3)
  obtain ⟨w1,w2⟩:=KG hs hl bz (E.getD i z3)
  rcases w2 with ⟨q,_⟩|⟨_,m,_,_,w2⟩
  ·exact absurd ⟨ha,hp⟩ q
  have akI:jQ L bz (E.take (i+1))=jQ L bz (E.take i)+(if jy L bz (E.getD i z3) then 0 else 1):=by
   unfold jQ
   rw [fI hi z3,List.countP_append,List.countP_singleton]
   congr 1
   by_cases h:jy L bz (E.getD i z3)<;>simp [h]
  have hle:jQ L bz (E.take i)<=i:=by
   unfold jQ
   refine Nat.le_trans List.countP_le_length ?_
   rw [List.length_take];omega
  unfold hY dh aB aj
  dsimp only
  simp only [Int.toNat_natCast]
  rw [hL,aR,p3]
  have w3:cn.ask L (iu L).1 (bz,E.getD i ((0:Int),(0:Int),(0:Int)))=(decide (jy L bz (E.getD i z3)),(m:Int),0):=w2
  rw [w3]
  refine ⟨fun _=>⟨⟨by omega,by omega⟩,hi,hi,p1,p2,w1,FF.1⟩,.inl ⟨_,?_,1,(iu L).1,mZ (decide (jy L bz (E.getD i z3)),(m:Int),0) w 1,mZ (decide (jy L bz (E.getD i z3)),(m:Int),0) v (m:Int),rfl,.inr ⟨rfl,rfl⟩⟩⟩
  rw [if_pos (by omega)]
  dsimp only
  rw [akI]
  have e1:au ((i:Int)+1)=((i+1:Nat):Int):=by rw [aC (by omega) (by omega)];rfl
  have e2:au (((jQ L bz (E.take i):Nat):Int)+1)=((jQ L bz (E.take i)+1:Nat):Int):=by rw [aC (by omega) (by omega)];rfl
  by_cases h:jy L bz (E.getD i z3)
  ·rw [decide_eq_true h,if_neg (by decide),if_pos h,e1];rfl
  ·rw [decide_eq_false h,if_pos (by decide),if_neg h,e1,e2]
 ·obtain ⟨dn,T,w,v,rfl,hC⟩:=hJ
  refine ⟨?_,_,?_,dn,T,w,v,rfl,hC⟩
  ·unfold hY
   intro q
   dsimp only at q;omega
  ·unfold dh
   dsimp only
   rw [if_neg (by omega),List.take_length]
def zz (L:List T3) (bz n:P3) (l:qw):List Int:=if (mF l bz).2.2=0/\ ¬jy L bz (mF l bz).2.1 then [RZ l bz n] else []
def eD (L:List T3) (Lt:List qw) (bz n:P3):List Int:=Lt.flatMap (zz L bz n)
theorem ZN (L:List T3) (bz n:P3) (l:qw):(zz L bz n l).length<=1:=by unfold zz;split<;>simp
theorem x7 (L:List T3) (bz n:P3): ∀Lt:List qw,(eD L Lt bz n).length<=Lt.length
 | []=>by simp [eD]
 |l::r=>by
  have h1:=ZN L bz n l
  have h2:=x7 L bz n r
  unfold eD at h2 ⊢
  rw [List.flatMap_cons,List.length_append,List.length_cons]
  omega
theorem Fw (x:ahI) {L:List T3} (hs:yA L) (hl:L.length<=12) (hL:x.1=L) {bz n:P3} (aR:x.2.2.2.2.2=(bz,n)) (ha:A4 bz) (hn:Nr n) (h0:n≠(0,0,0)) {Lt:List qw} (hLt:x.2.2.1=Lt) (hLl:Lt.length<=100) (hR: ∀l∈Lt,fu l)
  {dn:Int} {T:List vy} (hC:Xg L dn T) (w v k:Int):
  TR (b9 x) (gG x) (dn,T,w,v,[k],0) fun r=> ∃Mp T' w' v',r=(Mp,T',w',v',[k]++eD L Lt bz n)/\ Xg L Mp T':=by
 refine eS Lt.length (fun i s=> ∃dn T w v,s=(dn,T,w,v,[k]++eD L (Lt.take i) bz n,(i:Int))/\ Xg L dn T) _ (fun i s hi hJ=> ?_) (fun s hJ=> ?_) ⟨dn,T,w,v,by simp [eD],hC⟩
 ·obtain ⟨dn,T,w,v,rfl,hC⟩:=hJ
  obtain ⟨p1,p2,p3⟩:=hC.pick hl
  obtain ⟨l,hlD⟩: ∃l,l=Lt.getD i (0,(0,0,0),(0,0,0),0,0):=⟨_,rfl⟩
  have hr:=hR _ (jr hi (0,(0,0,0),(0,0,0),0,0))
  rw [<- hlD] at hr
  have hsn:eD L (Lt.take (i+1)) bz n=eD L (Lt.take i) bz n++zz L bz n l:=by
   rw [fI hi (0,(0,0,0),(0,0,0),0,0),<- hlD]
   unfold eD
   rw [List.flatMap_append]
   simp
  have w7:=x7 L bz n (Lt.take i)
  rw [List.length_take] at w7
  have aoc:([k]++eD L (Lt.take i) bz n).length<=101:=by
   rw [List.length_append];simp;omega
  obtain ⟨t1,t2⟩:=G5 hr ha.p8
  obtain ⟨z1,z2⟩:=JM hr ha.p8 hn h0
  have e1:au ((i:Int)+1)=((i+1:Nat):Int):=by rw [aC (by omega) (by omega)];rfl
  unfold gG b9 aB aj
  dsimp only
  simp only [Int.toNat_natCast]
  rw [hL,hLt,aR]
  dsimp only
  rw [<- hlD,t2,z2,p3,hsn]
  rcases Ky hr ha.p8 with ⟨e,he⟩|⟨e,hu,hsm⟩
  ·refine ⟨fun _=>⟨⟨by omega,by omega⟩,hi,hi,t1,fun h=>absurd h (by simp [e])⟩,.inl ⟨_,?_,dn,T,w,v,rfl,hC⟩⟩
   have hF:zz L bz n l= []:=by unfold zz;rw [if_neg (fun h=>by have:=h.1;omega)]
   rw [if_pos (by omega),if_neg (by simp [e]),e1,hF,List.append_nil]
  ·obtain ⟨w1,w2⟩:=KG hs hl bz (mF l bz).2.1
   rcases w2 with ⟨q,_⟩|⟨_,m,_,_,w2⟩
   ·exact absurd ⟨ha.sm,hsm⟩ q
   have w3:cn.ask L (iu L).1 (bz,(mF l bz).2.1)=(decide (jy L bz (mF l bz).2.1),(m:Int),0):=w2
   rw [w3]
   dsimp only
   refine ⟨fun _=>⟨⟨by omega,by omega⟩,hi,hi,t1,fun _=>⟨p1,p2,w1,FF.1,fun _=>⟨z1,FF.1,by omega⟩⟩⟩,.inl ⟨_,?_,1,(iu L).1,mZ (decide (jy L bz (mF l bz).2.1),(m:Int),0) w 1,mZ (decide (jy L bz (mF l bz).2.1),(m:Int),0) v (m:Int),rfl,.inr ⟨rfl,rfl⟩⟩⟩
   rw [if_pos (by omega),if_pos (by simp [e]),e1]
   by_cases h:jy L bz (mF l bz).2.1
   ·have hF:zz L bz n l= []:=by unfold zz;rw [if_neg (fun q=>q.2 h)]
    rw [decide_eq_true h,if_neg (by decide),hF,List.append_nil]
   ·have hF:zz L bz n l= [RZ l bz n]:=by unfold zz;rw [if_pos ⟨e,h⟩]
    rw [decide_eq_false h,if_pos (by decide),hF,List.append_assoc]
 ·obtain ⟨dn,T,w,v,rfl,hC⟩:=hJ
  refine ⟨?_,_,?_,dn,T,w,v,rfl,hC⟩
  ·unfold gG
   intro q
   rw [hLt] at q
   dsimp only at q;omega
  ·unfold b9
   dsimp only
   rw [hLt,if_neg (by omega),List.take_length]
def UF (L:List T3) (s jg:Int) (bz n:P3) (len:Int):Int:=if s=0 then jg else jg*((jQ L bz (eu s bz n len):Nat):Int) / s
def q9 (L:List T3) (Lt:List qw) (y:(Int×Int×Int×Int)×(P3×P3)):Int:=qt ([UF L y.1.1 y.1.2.2.2 y.2.1 y.2.2 y.1.2.1]++eD L Lt y.2.1 y.2.2)
theorem W6 {L:List T3} (hs:yA L) (hl:L.length<=12) {T:List vy} {dn:Int} (hC:Xg L dn T) {Lt:List qw} (hLl:Lt.length<=100) (hR: ∀l∈Lt,fu l) {s len mJ jg:Int} (h1:0<=s/\ s<=24) (h2:0<=len/\ len<=2048) (h3:0<=jg/\ jg<=255)
  {bz n:P3} (ha:A4 bz) (hn:Nr n) (h0:n≠(0,0,0)) (a b:Int):
  lD (L,T,Lt,(dn,a,b),(s,len,mJ,jg),bz,n)/\ ∃T' Mp a' b',sN (L,T,Lt,(dn,a,b),(s,len,mJ,jg),bz,n)=(q9 L Lt ((s,len,mJ,jg),bz,n),T',Mp,a',b')/\ Xg L Mp T':=by
 obtain ⟨g1,g2⟩:=IL (a:=s) (b:=len) (c:=mJ) (d:=jg) (L:=Lt) (bz:=bz) (n:=n) h1 h2 ha.nr hn h0
 have hEl:=qF h1 bz n len
 have hEs:=acm (k:=s) ha hn h0 h2
 have hw: ∀k:Int,([k]++eD L Lt bz n).length<4611686018427387904:=fun k=>by
  have:=x7 L bz n Lt
  rw [List.length_append];simp;omega
 unfold lD sN aB aj
 dsimp only
 rw [g2]
 generalize hE:eu s bz n len=E at*
 by_cases hz:s=0
 ·have hc:((((E.length:Nat):Int)==0)=true):=beq_iff_eq.2 (by omega)
  obtain ⟨k1,Mp,T',a',b',k2,k3⟩:=Fw (L,T,Lt,(dn,a,b),(s,len,mJ,jg),bz,n) hs hl rfl rfl ha hn h0 rfl hLl hR hC a b jg
  obtain ⟨q1,q2⟩:=FA _ (hw jg)
  rw [k2,if_pos hc]
  dsimp only
  rw [q2]
  refine ⟨⟨g1,fun _=>⟨k1,q1⟩,fun h=>absurd hc h⟩,T',Mp,a',b',?_,k3⟩
  unfold q9 UF
  dsimp only
  rw [if_pos hz]
 ·have hc: ¬((((E.length:Nat):Int)==0)=true):=fun h=>hz (by have:=beq_iff_eq.1 h;omega)
  obtain ⟨r1,dn1,T1,a1,b1,r2,r3⟩:=MJ (L,T,Lt,(dn,a,b),(s,len,mJ,jg),bz,n) hs hl rfl rfl ha.sm hEs (by omega) hC a b
  have hle:jQ L bz E<=E.length:=List.countP_le_length
  have hbd:0<=jg*((jQ L bz E:Nat):Int)/\ jg*((jQ L bz E:Nat):Int)<=255*24:=by
   refine ⟨Int.mul_nonneg h3.1 (by omega),?_⟩
   exact (wK (A:=255) (B:=24) (by omega) h3.2 (by omega) (by omega)).2
  have hk:au (Int.tdiv (au (jg*((jQ L bz E:Nat):Int))) ((E.length:Nat):Int))=UF L s jg bz n len:=by
   have hq:=Int.ediv_le_self s hbd.1
   have VA:=Int.ediv_nonneg hbd.1 h1.1
   unfold UF
   rw [if_neg hz,hE,aC (n:=jg*((jQ L bz E:Nat):Int)) (by omega) (by omega),Int.tdiv_eq_ediv_of_nonneg hbd.1,hEl,aC (by omega) (by omega)]
  obtain ⟨k1,Mp,T',a',b',k2,k3⟩:=Fw (L,T,Lt,(dn,a,b),(s,len,mJ,jg),bz,n) hs hl rfl rfl ha hn h0 rfl hLl hR r3 a1 b1 (UF L s jg bz n len)
  obtain ⟨q1,q2⟩:=FA _ (hw (UF L s jg bz n len))
  rw [r2]
  dsimp only
  rw [hk,k2,if_neg hc]
  dsimp only
  rw [q2]
  refine ⟨⟨g1,fun h=>absurd h hc,fun _=>⟨r1,by omega,k1,q1⟩⟩,T',Mp,a',b',?_,k3⟩
  rfl
end Go.Proofs.YtngdehlpoomaiaaGreat
namespace Go.Proofs.YtngdehlpoomaiaaGreat
open Go Go.Ev Go.Proofs
theorem XB (x:Ec):iq x/\ rj x=if bX x=0 then (0,1) else (0,bX x):=by
 obtain ⟨k1,k2⟩:=wg x
 unfold iq rj yI MC aB aj
 rw [k2]
 dsimp only
 by_cases h:bX x=0
 ·obtain ⟨g1,g2⟩:=v8 h
  (try rw [if_pos h])
  exact ⟨⟨k1,fun _=>g1⟩,rfl⟩
 ·rw [if_neg h]
  exact ⟨⟨k1,fun q=>absurd q h⟩,rfl⟩
def oa (Lt:List qw) (y:(Int×Int×Int×Int)×(P3×P3)):Ec:=((y.1.1,y.1.2.1,y.1.2.2.1,y.1.2.2.2,Lt),y.2)
theorem j6 {L:List T3} (hs:yA L) (hl:L.length<=12) {T:List vy} {dn:Int} (hC:Xg L dn T) (Lt:List qw) (y:(Int×Int×Int×Int)×(P3×P3)) (hy:bX (oa Lt y)=0->y.1.1<=24) (a b:Int):
  dr (L,T,Lt,(dn,a,b),y)/\ ∃T' Mp a' b',jz (L,T,Lt,(dn,a,b),y)=((if bX (oa Lt y)=0 then (q9 L Lt (y.1,gg (oa Lt y),y.2.2),0) else (0,bX (oa Lt y))),T',Mp,a',b')/\ Xg L Mp T':=by
 obtain ⟨⟨s,len,mJ,jg⟩,p,n⟩:=y
 obtain ⟨k1,k2⟩:=wg (oa Lt ((s,len,mJ,jg),p,n))
 have e:((s,len,mJ,jg,Lt),p,n)=oa Lt ((s,len,mJ,jg),p,n):=rfl
 unfold dr jz tg KO aB aj
 dsimp only
 rw [e,k2]
 by_cases h:bX (oa Lt ((s,len,mJ,jg),p,n))=0
 ·obtain ⟨g1,g2⟩:=v8 h
  obtain ⟨h1,h2,h3,h4⟩:=iy h
  have hb:=Um h
  obtain ⟨v1,T',Mp,a',b',v2,v3⟩:=W6 hs hl hC (Lt:=Lt) (by have:=h1.2.2.2.2.1;exact Nat.le_trans this (by decide)) h1.2.2.2.2.2 (s:=s) (len:=len) (mJ:=mJ) (jg:=jg) ⟨h1.1.1,hy h⟩ h1.2.1 h1.2.2.2.1 (bz:=gg (oa Lt ((s,len,mJ,jg),p,n))) (n:=n) hb h3 h4 a b
  rw [if_pos h,if_pos h,g2]
  have e2:Sh (L,T,Lt,(dn,a,b),(s,len,mJ,jg),gg (oa Lt ((s,len,mJ,jg),p,n)),n)=(q9 L Lt ((s,len,mJ,jg),gg (oa Lt ((s,len,mJ,jg),p,n)),n),T',Mp,a',b'):=v2
  refine ⟨⟨k1,fun _=>⟨g1,v1⟩⟩,T',Mp,a',b',?_,v3⟩
  exact (congrArg (fun z=>((z.1,(0:Int)),z.2)) e2)
 ·rw [if_neg h,if_neg h]
  exact ⟨⟨k1,fun q=>absurd q h⟩,T,dn,a,b,rfl,hC⟩
theorem rt_eq {n r:Int} (h0:0<=n) (h1:n<=9223372036854775807) (h:D9 n r):rt n=r:=(RX h0 h1).2.2.uniq h
def up:P3:=(0,0,1)
def RW:T3:=((-4000,-4000,100),(4000,-4000,100),0,8000,100)
theorem Ur:cK up=(0,0,1024):=by
 unfold cK
 rw [show (1048576*yQ up up:Int)=1048576 by decide,rt_eq (r:=1024) (by decide) (by decide) ⟨by decide,by decide,by decide⟩]
 decide
theorem ajr:frT (0,0,1024)=(0,-1024,0):=by
 unfold frT
 rw [show EE (Xh (jh (0,0,1024))) (0,0,1024)=(0,-1024,0) by decide]
 unfold cK
 rw [show (1048576*yQ (0,-1024,0) (0,-1024,0):Int)=1048576*1048576 by decide,rt_eq (r:=1048576) (by decide) (by decide) ⟨by decide,by decide,by decide⟩]
 decide
theorem alP:frB (0,0,1024)=(1024,0,0):=by
 unfold frB
 rw [ajr]
 decide
theorem wG {x y z:Int} (h0:0<=aT (1048576- x*x- y*y) 0) (h1:aT (1048576- x*x- y*y) 0<=9223372036854775807) (hz:D9 (aT (1048576- x*x- y*y) 0) z):m0 up (x,y)=atV (0,-1024,0) (1024,0,0) (0,0,1024) x y z:=by
 unfold m0 M0
 rw [Ur,ajr,alP]
 dsimp only
 rw [rt_eq h0 h1 hz]
theorem D4:D24.take 4= [(0,-342),(-512,341),(512,-797),(-768,-114)]:=by kernel_rfl
theorem aeD:eu 4 (0,0,0) up 512= [(-171,0,482),(170,256,409),(-399,-256,194),(-57,384,333)]:=by
 unfold eu
 rw [show (4:Int).toNat=4 by rfl,D4]
 simp only [List.map_cons,List.map_nil]
 rw [wG (x:=0) (y:= -342) (z:=965) (by decide) (by decide) ⟨by decide,by decide,by decide⟩,
  wG (x:= -512) (y:=341) (z:=818) (by decide) (by decide) ⟨by decide,by decide,by decide⟩,
  wG (x:=512) (y:= -797) (z:=388) (by decide) (by decide) ⟨by decide,by decide,by decide⟩,
  wG (x:= -768) (y:= -114) (z:=667) (by decide) (by decide) ⟨by decide,by decide,by decide⟩]
 decide
theorem TK:yA [RW]:=by
 intro t ht
 rw [List.mem_singleton] at ht
 subst ht
 intro p hp
 simp only [Kz,RW,List.mem_cons,List.not_mem_nil,or_false] at hp
 rcases hp with rfl|rfl|rfl<;>decide
theorem LU:yA []:=fun t ht=>by cases ht
theorem WY:q9 [] [] ((4,512,0,100),(0,0,0),up)=100:=by
 unfold q9 UF
 dsimp only
 rw [aeD]
 decide
theorem WZ:q9 [RW] [] ((4,512,0,100),(0,0,0),up)=0:=by
 unfold q9 UF
 dsimp only
 rw [aeD]
 decide
theorem jI {L:List T3} (hl:L.length<4611686018427387904) (hs:yA L):bJ (L,false)/\ bA (L,false)=false:=by
 obtain ⟨g1,g2⟩:=wT L hl
 refine ⟨g1,?_⟩
 cases h:bA (L,false) with
 |false=>rfl
 |true=>exact absurd hs (g2.1 h)
theorem ae0 (p:P3) (k:Int) (j0 j1 j3:Int) (L:List qw):gg ((j0,j1,k,j3,L),p,up)=(p.1+0*k / 1024,p.2.1+0*k / 1024,p.2.2+1024*k / 1024):=by
 unfold gg rz
 dsimp only
 rw [Ur]
theorem rP (x:Bool):aJ x/\ bp x=true:=by
 obtain ⟨c1,c2⟩:=jI (L:= []) (by decide) LU
 obtain ⟨d1,d2⟩:=jI (L:= [RW]) (by decide) TK
 obtain ⟨k1,k2⟩:=nH [] (by decide)
 obtain ⟨l1,l2⟩:=nH [RW] (by decide)
 have q0:bX (oa [] ((4,512,0,100),(0,0,0),up))=0:=by decide
 obtain ⟨a1,T1,dn1,a',b',a2,_⟩:=j6 (L:= []) LU (by decide) (T:= []) (dn:=0) (.inl rfl) [] ((4,512,0,100),(0,0,0),up) (fun _=>by decide) 0 0
 obtain ⟨b1,T2,dn2,a'',b'',b2,_⟩:=j6 (L:= [RW]) TK (by decide) (T:= []) (dn:=0) (.inl rfl) [] ((4,512,0,100),(0,0,0),up) (fun _=>by decide) 0 0
 have est:gg (oa [] ((4,512,0,100),(0,0,0),up))=(0,0,0):=ae0 _ _ _ _ _ _
 rw [if_pos q0,est,WY] at a2
 rw [if_pos q0,est,WZ] at b2
 obtain ⟨s1,s2⟩:=sJ ((0,0,10,0,[]),(5,0,0),up)
 rw [if_pos (by decide),ae0] at s2
 obtain ⟨t1,t2⟩:=sJ ((4,512,0,100,[]),(4161,0,0),up)
 rw [if_neg (by decide)] at t2
 have t3:bX ((4,512,0,100,[]),(4161,0,0),up)=5:=by decide
 rw [t3] at t2
 obtain ⟨n1,n2⟩:=XB ((4,512,0,100,[]),(0,0,0),up)
 rw [if_pos (by decide)] at n2
 obtain ⟨i1,i2⟩:=Ll (4,512,0,100,[])
 rw [decide_eq_true (by decide:Ux (4,512,0,100,[]))] at i2
 unfold RW at d1 d2 l1 l2 b1 b2
 unfold up at a1 a2 b1 b2 s1 s2 t1 t2 n1 n2
 unfold aJ bp aB aj
 obtain ⟨j1,j2⟩:=Ll (65,0,0,0,[])
 rw [c2]
 try dsimp only
 rw [k2]
 try dsimp only
 rw [d2]
 try dsimp only
 rw [l2]
 try dsimp only
 rw [a2]
 try dsimp only
 rw [b2]
 try dsimp only
 rw [s2]
 try dsimp only
 rw [n2]
 try dsimp only
 rw [t2]
 try dsimp only
 rw [i2]
 refine ⟨⟨c1,fun h=>absurd h (by decide),fun _=>⟨k1,d1,fun h=>absurd h (by decide),fun _=>⟨l1,a1,b1,s1,n1,t1,fun _ _ _ _ _ _ _ _=>⟨i1,fun _=>j1⟩⟩⟩⟩,rfl⟩
end Go.Proofs.YtngdehlpoomaiaaGreat
