/- Plain laws: what is built of triangles; the document's rows. -/
import Derived.Test.YtngdehlpoomaiaaGreatVf
import Derived.Test.YtngdehlpoomaiaaGreatLm
import Derived.Test.YtngdehlpoomaiaaGreatYd
noncomputable section
set_option linter.unusedSectionVars false
set_option linter.unusedVariables false
set_option linter.unusedSimpArgs false
namespace Go.Proofs.YtngdehlpoomaiaaGreat
open Go Go.Ev Go.Proofs
theorem yx (t:T3):yy t/\ (Cc t=true↔ ¬ ∀p∈Lb t,fF p):=by
 obtain ⟨s1,s2⟩:=fR [t.1,t.2.1,t.2.2] (by simp)
 refine ⟨s1,?_⟩
 unfold Cc aq
 rw [s2,Bool.not_eq_true',decide_eq_false_iff_not]
 exact Iff.rfl
theorem SP (L:List T3) (hl:L.length<4611686018427387904):yw L/\ (Cb L=true↔yQ L):=by
 have hh:=oB L hl Cc (iB (L,false)) (qq (L,false)) (fun i hi=>by
   unfold qq
   intro h
   simp only [Int.toNat_natCast]
   dsimp only at h ⊢
   exact ⟨by omega,by omega,by omega,(yx _).1⟩) (fun i x hx=>by
   have hlt:=c6 hx
   unfold iB aq
   dsimp only
   rw [if_pos (by omega),Int.toNat_natCast,iS hx]) (by
   unfold iB
   dsimp only
   rw [if_neg (by omega)])
 refine ⟨hh.1,?_⟩
 have e:RY (L,false)=_:=hh.2
 unfold Cb Bx aq
 dsimp only
 rw [e]
 have e2:=uk L Cc
 refine (iff_of_eq (congrArg (fun b:Bool=>(!b)=true) e2)).trans ?_
 rw [Bool.not_eq_true',List.any_eq_false]
 unfold yQ
 constructor
 ·intro h t ht
  have:=h t ht
  rw [(yx t).2] at this
  exact Classical.byContradiction this
 ·intro h t ht
  rw [(yx t).2]
  exact fun q=>q (h t ht)
def Ij (n:Nat):List Int:=(List.range n).map fun (i:Nat)=>(i:Int)
theorem Ad (n:Nat):(Ij n).length=n:=by simp [Ij]
theorem abm (n:Nat):Ij (n+1)=Ij n++ [(n:Int)]:=by simp [Ij,List.range_succ]
theorem Ae (n:Nat) (x:Int):x∈Ij n↔0<=x/\ x<(n:Int):=by
 simp only [Ij,List.mem_map,List.mem_range]
 constructor
 ·rintro ⟨a,ha,rfl⟩;omega
 ·rintro ⟨h1,h2⟩;exact ⟨x.toNat,by omega,by omega⟩
theorem Xk (n:Nat):(Ij n).Nodup:=by
 unfold Ij
 rw [List.nodup_iff_pairwise_ne,List.pairwise_map]
 exact (List.nodup_iff_pairwise_ne.1 List.nodup_range).imp fun h e=>h (by omega)
theorem Rd (L:List T3) (hl:L.length<=1000):TR (fh L) (lI L) (List.replicate L.length 0,0) fun r=>r=Ij L.length:=by
 have hrl:(List.replicate L.length (0:Int)).length=L.length:=List.length_replicate
 refine eH L.length (fun i s=>s=(Ij i++List.replicate (L.length- i) 0,(i:Int))) _ (fun i s hi hJ=> ?_) (fun s hJ=> ?_) (by simp [Ij])
 ·subst hJ
  have hlen:(Ij i++List.replicate (L.length- i) (0:Int)).length=L.length:=by rw [List.length_append,Ad,List.length_replicate];omega
  have Z2:(Ij i++List.replicate (L.length- i) (0:Int)).set i (i:Int)=Ij (i+1)++List.replicate (L.length- (i+1)) 0:=by
   have e:L.length- i=(L.length- (i+1))+1:=by omega
   rw [e,List.replicate_succ,abm]
   have:=MO (Ij i) (List.replicate (L.length- (i+1)) (0:Int)) 0 (i:Int)
   rw [Ad] at this
   rw [this];simp
  refine ⟨?_,.inl ⟨_,?_,rfl⟩⟩
  ·unfold lI
   intro _
   dsimp only
   rw [Int.toNat_natCast,hlen];omega
  ·unfold fh aq
   dsimp only
   rw [hrl,if_pos (by omega),Int.toNat_natCast,Z2,VD hi (by omega)]
 ·subst hJ
  refine ⟨?_,Ij L.length++List.replicate (L.length- L.length) 0,?_,by simp⟩
  ·unfold lI
   intro q
   dsimp only at q
   rw [hrl] at q;omega
  ·unfold fh
   dsimp only
   rw [hrl,if_neg (by omega)]
theorem EW (L:List T3) (hl:L.length<=12):kS L/\ ((¬yQ L/\ ig L=([],5))\/ (yQ L/\ ∃G N U,ig L=(G,0)/\ G.length<=1000/\ jR L 0 (-1) (Ij L.length) G N U)):=by
 obtain ⟨s1,s2⟩:=SP L (by omega)
 have k:=Rd L (by omega)
 have hi:Na L (Ij L.length):=fun i h=>(Ae _ _).1 h
 obtain ⟨g1,G,N,U,g2,g3,g4⟩:=Wb (L:=L) (pl:=Ij L.length) [] hi (by rw [Ad];omega) (by simp)
 have hb: ¬((L.length:Nat):Int)>500:=by omega
 unfold kS ig aC aq
 rw [if_neg hb]
 cases hs:Cb L with
 |false=>
  exact ⟨fun _=>⟨s1,fun q=>absurd (by decide) q⟩,.inl ⟨fun q=>(by rw [s2.2 q] at hs;cases hs),rfl⟩⟩
 |true=>
  dsimp only
  rw [if_neg (by decide),k.2]
  rw [Ad] at g3
  refine ⟨fun _=>⟨s1,fun _=>⟨⟨by omega,by omega⟩,k.1,g1⟩⟩,.inr ⟨s2.1 hs,G,N,U,?_,by omega,g4⟩⟩
  rw [g2];rfl
end Go.Proofs.YtngdehlpoomaiaaGreat
namespace Go.Proofs.YtngdehlpoomaiaaGreat
open Go Go.Ev Go.Proofs
def tJ (L:List T3) (a b:P3):Prop:= ∃t∈L,Lq a b t
instance (L:List T3) (a b:P3):Decidable (tJ L a b):=by unfold tJ;infer_instance
theorem ad9 (L:List T3) (a b:P3):mR L a b (Ij L.length)↔tJ L a b:=by
 constructor
 ·rintro ⟨i,h1,h2⟩
  have h:=(Ae _ _).1 h1
  exact ⟨_,jl (show i.toNat<L.length by omega) zT,h2⟩
 ·rintro ⟨t,h1,h2⟩
  obtain ⟨i,hi,rfl⟩:=List.mem_iff_getElem.1 h1
  refine ⟨(i:Int),(Ae _ _).2 ⟨by omega,by omega⟩,?_⟩
  rw [Int.toNat_natCast,List.getD_eq_getElem?_getD,List.getElem?_eq_getElem hi]
  exact h2
theorem LY (t:T3):Fj t/\ (VX t=true↔ ¬ ∀p∈Lb t,fF p):=by
 obtain ⟨s1,s2⟩:=fR [t.1,t.2.1,t.2.2] (by simp)
 refine ⟨s1,?_⟩
 unfold VX aq
 rw [s2]
 show (!decide (∀p∈Lb t,fF p))=true↔_
 simp
theorem xh (L:List T3) (hl:L.length<4611686018427387904):qi (L,false)/\ (kW (L,false)=true↔ ¬yQ L):=by
 have hh:=oB L hl VX (iz (L,false)) (qo (L,false)) (fun i hi=>by
   unfold qo
   intro h
   simp only [Int.toNat_natCast]
   dsimp only at h ⊢
   exact ⟨by omega,by omega,by omega,(LY _).1⟩) (fun i x hx=>by
   have hlt:=c6 hx
   unfold iz aq
   dsimp only
   rw [if_pos (by omega),Int.toNat_natCast,iS hx]) (by
   unfold iz
   dsimp only
   rw [if_neg (by omega)])
 refine ⟨hh.1,?_⟩
 have e:RW (L,false)=_:=hh.2
 unfold kW aq
 dsimp only
 rw [e]
 refine (iff_of_eq (congrArg (fun b:Bool=>b=true) (uk L VX))).trans ?_
 rw [List.any_eq_true]
 unfold yQ
 constructor
 ·rintro ⟨t,h1,h2⟩ h3
  exact (LY t).2.1 h2 (h3 t h1)
 ·intro h
  refine Classical.byContradiction fun h2=>h fun t ht=>Classical.byContradiction fun h3=>h2 ⟨t,ht,(LY t).2.2 h3⟩
theorem xj (L:List T3) (hl:L.length<4611686018427387904):dH (L,false)/\ (dK (L,false)=true↔ ¬yQ L):=xh L hl
theorem Li {L:List T3} (hs:yQ L) (hl:L.length<=12) (a b:P3):rB ((ig L).1,L,a,b)/\
  ((¬(fF a/\ fF b)/\ Lh ((ig L).1,L,a,b)=(false,0,5))\/ ((fF a/\ fF b)/\ ∃m:Nat,1<=m/\ m<=(ig L).1.length/\ Lh ((ig L).1,L,a,b)=(decide (tJ L a b),(m:Int),0))):=by
 obtain ⟨_,b2⟩:=EW L hl
 rcases b2 with ⟨q,_⟩|⟨_,G,N,U,e,hG,ht⟩
 ·exact absurd hs q
 rw [e]
 dsimp only
 have hi:Na L (Ij L.length):=fun i h=>(Ae _ _).1 h
 have hr:=Ad L.length
 obtain ⟨i1,i2⟩:=aew ht hi hs (by omega) (by omega) (by omega) (Xk _) (fun j hj=>(Ae _ _).2 ⟨by omega,by omega⟩)
 obtain ⟨s1,s2⟩:=fR [a,b] (by simp)
 obtain ⟨c1,c2⟩:=xh L (by omega)
 have c3:kW (L,false)=false:=by
  cases h:kW (L,false) with
  |false=>rfl
  |true=>exact absurd hs (c2.1 h)
 unfold rB Lh aC aq
 dsimp only
 rw [i2,c3,s2]
 by_cases hab:fF a/\ fF b
 ·have h1: ∀p∈ [a,b],fF p:=sm2 hab.1 hab.2
  rw [decide_eq_true h1]
  by_cases h0:L= []
  ·subst h0
   refine ⟨⟨i1,fun _=>⟨s1,fun _=>⟨c1,fun _ q=>absurd rfl q⟩⟩⟩,.inr ⟨hab,1,Nat.le_refl _,ht.facts.pos,?_⟩⟩
   rw [if_neg (by decide),if_neg (by decide),if_neg (by decide),if_pos (by rfl)]
   refine Prod.ext ?_ rfl
   exact (decide_eq_false (show¬tJ [] a b from fun ⟨t,h,_⟩=>by cases h)).symm
  ·have hn: ¬((((L.length:Nat):Int)==0)=true):=by simpa using h0
   obtain ⟨w1,m,w2,w3,w4⟩:=acj hs hab.1 hab.2 (by omega) ht hi (by omega) (fun q=>by
    rw [q] at hr
    exact h0 (List.eq_nil_of_length_eq_zero hr.symm))
   refine ⟨⟨i1,fun _=>⟨s1,fun _=>⟨c1,fun _ _=>w1⟩⟩⟩,.inr ⟨hab,m,w2,w3,?_⟩⟩
   rw [if_neg (by decide),if_neg (by decide),if_neg (by decide),if_neg hn,w4]
   refine Prod.ext ?_ rfl
   dsimp only
   rw [Bool.eq_iff_iff,decide_eq_true_eq,decide_eq_true_eq]
   exact ad9 L a b
 ·have h1: ¬ ∀p∈ [a,b],fF p:=fun q=>hab ⟨q a (by simp),q b (by simp)⟩
  rw [decide_eq_false h1]
  refine ⟨⟨i1,fun _=>⟨s1,fun q=>absurd rfl q⟩⟩,.inl ⟨hab,?_⟩⟩
  rw [if_neg (by decide),if_pos (by decide)]
def Vn (L:List T3) (dn:Int) (T:List vQ):Prop:=dn=0\/ (dn=1/\ T=(ig L).1)
theorem Vn.pick {L:List T3} {dn:Int} {T:List vQ} (h:Vn L dn T) (hl:L.length<=12):((decide (dn=0))||(decide (dn=1)))=true/\ xu dn (cj.base.pre L)/\ jK dn (cj.base.LD L) T=(ig L).1:=by
 rcases h with rfl|⟨rfl,rfl⟩
 ·exact ⟨rfl,fun _=>(EW L hl).1,rfl⟩
 ·exact ⟨rfl,fun h=>absurd h (by decide),rfl⟩
theorem Bv (L:List T3) (hl:L.length<=500):jv L/\ n9 L=L:=by
 unfold jv n9
 refine ⟨fun b hb=> ?_,rfl⟩
 cases b with
 |false=>exact ⟨rfl,fun _=>by omega⟩
 |true=>
  have:L= []:=by
   cases L with
   |nil=>rfl
   |cons x r=>exact absurd (hb (by simp)) (by decide)
  subst this
  exact ⟨rfl,fun q=>absurd rfl q⟩
end Go.Proofs.YtngdehlpoomaiaaGreat
namespace Go.Proofs.YtngdehlpoomaiaaGreat
open Go Go.Ev Go.Proofs
def R7 (u w:P3):Int:=bt (bf (zg u w) 0 / 1024) 1024
theorem T9 (u w:P3):0<=R7 u w/\ R7 u w<=1024:=by
 unfold R7 bt bf
 split<;>split<;>omega
theorem U3.nr {u:P3} (h:U3 u):Nr u:=⟨by have:=h.1;omega,by have:=h.2.1;omega,by have:=h.2.2;omega⟩
theorem CM {u w:P3} (hu:U3 u) (hw:U3 w):jX (u,w)/\ uo (u,w)=(R7 u w,0):=by
 obtain ⟨d1,d2⟩:=HQ hu.nr hw.nr
 obtain ⟨a1,a2,a3⟩:=hu
 obtain ⟨b1,b2,b3⟩:=hw
 have m1:=mb (A:=1024) (by decide) a1 b1
 have m2:=mb (A:=1024) (by decide) a2 b2
 have m3:=mb (A:=1024) (by decide) a3 b3
 have n1: ¬(bt (bt (bt (bt (bt u.1 u.2.1) u.2.2) w.1) w.2.1) w.2.2)< -2048:=by
  simp only [bt]
  repeat' split
  all_goals omega
 have n2: ¬(bf (bf (bf (bf (bf u.1 u.2.1) u.2.2) w.1) w.2.1) w.2.2)>2048:=by
  simp only [bf]
  repeat' split
  all_goals omega
 have hm:0<=bf (zg u w) 0/\ bf (zg u w) 0<=3145728:=by
  unfold bf zg
  split<;>omega
 unfold jX uo aq
 dsimp only
 rw [if_neg n1,if_neg n2,d2]
 refine ⟨fun _ _=>d1,?_⟩
 dsimp only
 rw [Int.tdiv_eq_ediv_of_nonneg hm.1,aF (by omega) (by omega)]
 rfl
def ng (v:P3):P3:=(-v.1,-v.2.1,-v.2.2)
theorem U3.ng {u:P3} (h:U3 u):U3 (ng u):=⟨by have:=h.1;unfold Go.Proofs.YtngdehlpoomaiaaGreat.ng;dsimp only;omega,by have:=h.2.1;unfold Go.Proofs.YtngdehlpoomaiaaGreat.ng;dsimp only;omega,by have:=h.2.2;unfold Go.Proofs.YtngdehlpoomaiaaGreat.ng;dsimp only;omega⟩
theorem Tt {u:P3} (h:U3 u):JQ u=ng u:=by
 have a:=h.1
 have b:=h.2.1
 have c:=h.2.2
 unfold JQ ng
 rw [aF (n:=0- u.1) (by omega) (by omega),aF (n:=0- u.2.1) (by omega) (by omega),aF (n:=0- u.2.2) (by omega) (by omega)]
 simp
def oQ (l:yV) (p:P3):P3×(P3×Int):=
 if l.1=1 then (ng (cA l.2.2.1),(p.1+4*(ng (cA l.2.2.1)).1,p.2.1+4*(ng (cA l.2.2.1)).2.1,p.2.2+4*(ng (cA l.2.2.1)).2.2),0)
 else if sb l.2.1 p=(0,0,0) then ((0,0,0),(0,0,0),3) else (cA (sb l.2.1 p),l.2.1,0)
def Pt8 (p:P3):Prop:=(-8192<=p.1/\ p.1<=8192)/\ (-8192<=p.2.1/\ p.2.1<=8192)/\ (-8192<=p.2.2/\ p.2.2<=8192)
theorem Zl {l:yV} {p:P3} (hl:fK l) (hp:Pt8 p):qX (l,p)/\ OU (l,p)=if sb l.2.1 p=(0,0,0) then ((0,0,0),(0,0,0),3) else (cA (sb l.2.1 p),l.2.1,0):=by
 obtain ⟨s1,_⟩:=hl.2.2.2.1
 have p1:=hp.1
 have p2:=hp.2.1
 have p3:=hp.2.2
 have e:(av (l.2.1.1- p.1),av (l.2.1.2.1- p.2.1),av (l.2.1.2.2- p.2.2))=sb l.2.1 p:=by
  unfold sb
  rw [aF (n:=l.2.1.1- p.1) (by omega) (by omega),aF (n:=l.2.1.2.1- p.2.1) (by omega) (by omega),aF (n:=l.2.1.2.2- p.2.2) (by omega) (by omega)]
 unfold qX OU aq
 dsimp only
 rw [e]
 by_cases h0:sb l.2.1 p=(0,0,0)
 ·rw [if_pos h0,h0]
  obtain ⟨u1,u2⟩:=Lc
  rw [u2]
  exact ⟨u1,rfl⟩
 ·have hn:Nr (sb l.2.1 p):=by unfold sb;exact ⟨by dsimp only;omega,by dsimp only;omega,by dsimp only;omega⟩
  obtain ⟨u1,u2,_,_⟩:=gO hn h0
  rw [if_neg h0,u2]
  exact ⟨u1,rfl⟩
theorem abw {p:P3} (h:fF p):Nr p:=⟨by omega,by omega,by omega⟩
theorem Vt {l:yV} {p:P3} (hl:fK l) (hd:l.2.2.1≠(0,0,0)) (hp:Pt8 p):r9 (l,p)/\ Ml (l,p)=(ng (cA l.2.2.1),(p.1+4*(ng (cA l.2.2.1)).1,p.2.1+4*(ng (cA l.2.2.1)).2.1,p.2.2+4*(ng (cA l.2.2.1)).2.2),0):=by
 obtain ⟨_,s1⟩:=hl.2.2.2.1
 obtain ⟨u1,u2,u3,_⟩:=gO (abw s1) hd
 have g:=u3.ng
 have g1:=g.1
 have g2:=g.2.1
 have g3:=g.2.2
 have p1:=hp.1
 have p2:=hp.2.1
 have p3:=hp.2.2
 unfold r9 Ml aq
 dsimp only
 rw [u2]
 dsimp only
 rw [Tt u3]
 generalize ng (cA l.2.2.1)=w at*
 rw [aF (n:=4*w.1) (by omega) (by omega),aF (n:=4*w.2.1) (by omega) (by omega),aF (n:=4*w.2.2) (by omega) (by omega),aF (n:=p.1+4*w.1) (by omega) (by omega),aF (n:=p.2.1+4*w.2.1) (by omega) (by omega),aF (n:=p.2.2+4*w.2.2) (by omega) (by omega)]
 exact ⟨u1,rfl⟩
theorem B6 {l:yV} (hl:fK l) (h:l.1≠2):l.2.2.1≠(0,0,0):=hl.2.2.2.2.resolve_left h
theorem HJ {l:yV} {p:P3} (hl:fK l) (hp:Pt8 p):mw (l,p)/\ sk (l,p)=oQ l p:=by
  obtain ⟨r1,r2⟩:=B7 l
  obtain ⟨f1,f2⟩:=Zl hl hp
  have p1:=hp.1
  have p2:=hp.2.1
  have p3:=hp.2.2
  have hk:=hl.1
  have n1: ¬bt (bt p.1 p.2.1) p.2.2< -8192:=by          simp only [bt];repeat' split
                                                        all_goals omega
  have n2: ¬bf (bf p.1 p.2.1) p.2.2>8192:=by           simp only [bf];repeat' split
                                                       all_goals omega
  unfold mw sk aC aq oQ
  dsimp only
  rw [r2,decide_eq_true hl]
  rw [if_neg (by decide),if_neg n1,if_neg n2]
  by_cases k3:l.1=3
  · rw [if_pos k3,if_neg (by omega)]
    exact ⟨⟨r1,fun _ _ _=>⟨by omega,fun _=>f1,fun h=>absurd k3 h⟩⟩,f2⟩
  rw [if_neg k3]
  by_cases k2:l.1=2
  · rw [if_pos k2,if_neg (by omega)]
    exact ⟨⟨r1,fun _ _ _=>⟨by omega,fun _=>f1,fun _=>⟨fun _=>f1,fun h=>absurd k2 h⟩⟩⟩,f2⟩
  have k1:l.1=1:=by omega
  obtain ⟨a1,a2⟩:=Vt hl (B6 hl k2) hp
  rw [if_neg k2,if_pos k1,if_pos k1]
  exact ⟨⟨r1,fun _ _ _=>⟨by omega,fun h=>absurd h k3,fun _=>⟨fun h=>absurd h k2,fun _=>⟨fun _=>a1,fun h=>absurd k1 h⟩⟩⟩⟩,a2⟩
theorem La {l:yV} {p:P3} (hl:fK l) (hp:Pt8 p):((oQ l p).2.2=3/\ oQ l p=((0,0,0),(0,0,0),3))\/ ((oQ l p).2.2=0/\ U3 (oQ l p).1/\ fF (oQ l p).2.1):=by
 obtain ⟨s1,s2⟩:=hl.2.2.2.1
 have p1:=hp.1
 have p2:=hp.2.1
 have p3:=hp.2.2
 unfold oQ
 by_cases k1:l.1=1
 ·obtain ⟨u1,u2,u3,_⟩:=gO (abw s2) (B6 hl (by omega))
  have g:=u3.ng
  have g1:=g.1
  have g2:=g.2.1
  have g3:=g.2.2
  rw [if_pos k1]
  refine .inr ⟨rfl,g,?_⟩
  exact ⟨by dsimp only;omega,by dsimp only;omega,by dsimp only;omega⟩
 rw [if_neg k1]
 by_cases h0:sb l.2.1 p=(0,0,0)
 ·rw [if_pos h0];exact .inl ⟨rfl,rfl⟩
 ·have hn:Nr (sb l.2.1 p):=by unfold sb;exact ⟨by dsimp only;omega,by dsimp only;omega,by dsimp only;omega⟩
  obtain ⟨u1,u2,u3,_⟩:=gO hn h0
  rw [if_neg h0]
  exact .inr ⟨rfl,u3,s1⟩
def Te (l:yV) (w:P3):Prop:=l.1=3/\ R7 (cA l.2.2.1) (ng w)<l.2.2.2.2
instance (l:yV) (w:P3):Decidable (Te l w):=Classical.propDecidable _
theorem YT {l:yV} {w:P3} (hl:fK l) (hw:U3 w):wC (l,w)/\ OR (l,w)=decide (Te l w):=by
 obtain ⟨s1,s2⟩:=hl.2.2.2.1
 unfold wC OR aC aq
 dsimp only
 by_cases k3:l.1=3
 rotate_left
 ·rw [if_pos (by simpa using k3)]
  exact ⟨fun h=>absurd (by simpa using k3) h,(decide_eq_false fun h=>k3 h.1).symm⟩
 obtain ⟨u1,u2,u3,_⟩:=gO (abw s2) (B6 hl (by omega))
 obtain ⟨m1,m2⟩:=CM u3 hw.ng
 rw [if_neg (by simp [k3]),u2]
 dsimp only
 rw [Tt hw,m2]
 refine ⟨fun _=>⟨u1,m1⟩,?_⟩
 rw [Bool.eq_iff_iff,decide_eq_true_iff,decide_eq_true_iff]
 exact ⟨fun h=>⟨k3,h⟩,fun h=>h.2⟩
def shF (l:yV) (p n:P3):Int:=if (oQ l p).2.2=0 then (if Te l (oQ l p).1 then 0 else R7 (cA n) (oQ l p).1*l.2.2.2.1 / 1024) else 0
theorem amQ {l:yV} (hl:fK l) (p n:P3):0<=shF l p n/\ shF l p n<=255:=by
 have hp:=hl.2.1
 obtain ⟨k1,k2⟩:=T9 (cA n) (oQ l p).1
 unfold shF
 split
 ·split
  ·omega
  ·have h1:=Int.mul_nonneg k1 hp.1
   have h2:=w7 (A:=1024) (B:=255) (by omega) k2 (by omega) hp.2
   omega
 ·omega
theorem Xo {l:yV} {p n:P3} (hl:fK l) (hp:Pt8 p) (hn:Nr n) (h0:n≠(0,0,0)):sj (l,p,n)/\ F6 (l,p,n)=(shF l p n,0):=by
 obtain ⟨t1,t2⟩:=HJ hl hp
 obtain ⟨u1,u2,u3,_⟩:=gO hn h0
 unfold sj F6 aC aq shF
 dsimp only
 rw [t2]
 rcases La hl hp with ⟨e,he⟩|⟨e,hu,hs⟩
 ·rw [if_neg (by simp [e]),if_pos (by simp [e]),if_neg (by omega)]
  exact ⟨⟨t1,fun h=>absurd h (by simp [e])⟩,rfl⟩
 obtain ⟨d1,d2⟩:=YT hl hu
 obtain ⟨m1,m2⟩:=CM u3 hu
 rw [if_pos (by simp [e]),if_pos e,u2]
 dsimp only
 rw [if_neg (by decide),d2]
 refine ⟨⟨t1,fun _=>⟨u1,fun _=>⟨d1,fun _=>m1⟩⟩⟩,?_⟩
 by_cases hd:Te l (oQ l p).1
 ·rw [decide_eq_true hd,if_pos rfl,if_pos hd]
 ·rw [decide_eq_false hd,if_neg (by decide),if_neg hd,m2]
  have hpw:=hl.2.1
  obtain ⟨k1,k2⟩:=T9 (cA n) (oQ l p).1
  have h1:=Int.mul_nonneg k1 hpw.1
  have h2:=w7 (A:=1024) (B:=255) (by omega) k2 (by omega) hpw.2
  dsimp only
  rw [aF (n:=R7 (cA n) (oQ l p).1*l.2.2.2.1) (by omega) (by omega),Int.tdiv_eq_ediv_of_nonneg h1,aF (by omega) (by omega)]
def zb (x:Int):Int:=bt (bf x 0) 255
theorem YL (x:Int):0<=zb x/\ zb x<=255:=by unfold zb bt bf;split<;>split<;>omega
def Ik (L:List Int):Int:=(L.map zb).sum
def Ch (L:List Int):Int:=bt (Ik L) 255
theorem Tl (L:List Int):0<=Ik L:=by
 unfold Ik
 induction L with
 |nil=>simp
 |cons x r ih=>have:=(YL x).1;simp only [List.map_cons,List.sum_cons];omega
theorem Yq (L M:List Int):Ik (L++M)=Ik L+Ik M:=by unfold Ik;simp
theorem OZ (L:List Int) (hl:L.length<4611686018427387904):uU L/\ aaI L=Ch L:=by
 have key:TR (ke L) (pU L) (0,0) fun r=>r=Ch L:=by
  refine eH L.length (fun i s=>s=(Ch (L.take i),(i:Int))) _ (fun i s hi hJ=> ?_) (fun s hJ=> ?_) (by simp [Ch,Ik,bt])
  ·subst hJ
   unfold pU ke
   dsimp only
   simp only [Int.toNat_natCast]
   refine ⟨fun _=>⟨⟨by omega,by omega⟩,hi,hi⟩,.inl ⟨_,by rw [if_pos (by omega)],?_⟩⟩
   have e:Ch (L.take (i+1))=bt (Ch (L.take i)+zb (L.getD i 0)) 255:=by
    rw [eA hi 0]
    unfold Ch
    rw [Yq]
    have h1:=Tl (L.take i)
    have h2:=YL (L.getD i 0)
    have h3:Ik [L.getD i 0]=zb (L.getD i 0):=by simp [Ik]
    rw [h3]
    unfold bt
    split<;>split<;>(try split)<;>omega
   have hb:0<=Ch (L.take i)/\ Ch (L.take i)<=255:=by
    have h1:=Tl (L.take i)
    unfold Ch bt
    split<;>omega
   have h2:=YL (L.getD i 0)
   rw [e,aF (n:=(i:Int)+1) (by omega) (by omega)]
   have e2:av (Ch (L.take i)+bt (bf (L.getD i 0) 0) 255)=Ch (L.take i)+zb (L.getD i 0):=aF (by show _<=_+zb _;omega) (by show _+zb _<=_;omega)
   rw [e2]
   rfl
  ·subst hJ
   refine ⟨?_,_,?_,rfl⟩
   ·unfold pU
    intro q
    dsimp only at q;omega
   ·unfold ke
    dsimp only
    rw [if_neg (by omega),List.take_length]
 unfold uU aaI aq
 exact ⟨key.1,key.2⟩
end Go.Proofs.YtngdehlpoomaiaaGreat
