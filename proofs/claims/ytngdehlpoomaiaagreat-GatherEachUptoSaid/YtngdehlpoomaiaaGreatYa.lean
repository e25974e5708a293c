/- Plain laws: wide products, fractions; boxes that a way meets. -/
import Derived.Test.YtngdehlpoomaiaaGreatSa
import Derived.Test.YtngdehlpoomaiaaGreatVf
noncomputable section
set_option linter.unusedSectionVars false
set_option linter.unusedVariables false
set_option linter.unusedSimpArgs false
namespace Go.Proofs.YtngdehlpoomaiaaGreat
open Go Go.Ev Go.Proofs
def muH (A B:Int):Int:=av (av (av (av (A.tdiv 1000000000)*av (B.tdiv 1000000000))+av ((av (av (av (A.tdiv 1000000000)*B.tmod 1000000000)+av (A.tmod 1000000000*av (B.tdiv 1000000000)))).tdiv 1000000000))+av ((av (av (A.tmod 1000000000*B.tmod 1000000000)+av ((av (av (av (A.tdiv 1000000000)*B.tmod 1000000000)+av (A.tmod 1000000000*av (B.tdiv 1000000000)))).tmod 1000000000*1000000000))).tdiv 1000000000000000000))
def muL (A B:Int):Int:=(av (av (A.tmod 1000000000*B.tmod 1000000000)+av ((av (av (av (A.tdiv 1000000000)*B.tmod 1000000000)+av (A.tmod 1000000000*av (B.tdiv 1000000000)))).tmod 1000000000*1000000000))).tmod 1000000000000000000
theorem akh {A B:Int} (ha:0<=A) (ha2:A<=1000000000000000000) (hb:0<=B) (dI:B<=1000000000000000000):muH A B=A*B / 1000000000000000000/\ muL A B=A*B % 1000000000000000000:=by
 unfold muH muL
 rw [Int.tdiv_eq_ediv_of_nonneg ha,Int.tmod_eq_emod_of_nonneg ha,Int.tdiv_eq_ediv_of_nonneg hb,Int.tmod_eq_emod_of_nonneg hb]
 rw [aF (n:=A / 1000000000) (by omega) (by omega),aF (n:=B / 1000000000) (by omega) (by omega)]
 have e:A*B=(A / 1000000000*1000000000+A % 1000000000)*(B / 1000000000*1000000000+B % 1000000000):=by
  rw [Int.ediv_mul_add_emod,Int.ediv_mul_add_emod]
 have h1:0<=A / 1000000000/\ A / 1000000000<=1000000000:=by omega
 have h2:0<=A % 1000000000/\ A % 1000000000<=999999999:=by omega
 have h3:0<=B / 1000000000/\ B / 1000000000<=1000000000:=by omega
 have h4:0<=B % 1000000000/\ B % 1000000000<=999999999:=by omega
 revert e
 generalize A / 1000000000=p at h1 ⊢
 generalize A % 1000000000=q at h2 ⊢
 generalize B / 1000000000=r at h3 ⊢
 generalize B % 1000000000=s at h4 ⊢
 intro e
 rw [e]
 have b1:=w7 (a:=p) (b:=r) (A:=1000000000) (B:=1000000000) (by omega) (by omega) (by omega) (by omega)
 have b2:=w7 (a:=p) (b:=s) (A:=1000000000) (B:=999999999) (by omega) (by omega) (by omega) (by omega)
 have b3:=w7 (a:=q) (b:=r) (A:=999999999) (B:=1000000000) (by omega) (by omega) (by omega) (by omega)
 have b4:=w7 (a:=q) (b:=s) (A:=999999999) (B:=999999999) (by omega) (by omega) (by omega) (by omega)
 have c1:=Int.mul_nonneg h1.1 h3.1
 have c2:=Int.mul_nonneg h1.1 h4.1
 have c3:=Int.mul_nonneg h2.1 h3.1
 have c4:=Int.mul_nonneg h2.1 h4.1
 have e2:(p*1000000000+q)*(r*1000000000+s)=p*r*1000000000000000000+(p*s+q*r)*1000000000+q*s:=by grind
 rw [e2]
 generalize p*r=x at*
 generalize p*s=y at*
 generalize q*r=z at*
 generalize q*s=u at*
 rw [aF (n:=x) (by omega) (by omega),aF (n:=y) (by omega) (by omega),aF (n:=z) (by omega) (by omega),aF (n:=u) (by omega) (by omega),aF (n:=y+z) (by omega) (by omega)]
 rw [Int.tdiv_eq_ediv_of_nonneg (a:=y+z) (by omega),Int.tmod_eq_emod_of_nonneg (a:=y+z) (by omega)]
 rw [aF (n:=(y+z) / 1000000000) (by omega) (by omega),aF (n:=(y+z) % 1000000000*1000000000) (by omega) (by omega),aF (n:=u+(y+z) % 1000000000*1000000000) (by omega) (by omega)]
 rw [Int.tdiv_eq_ediv_of_nonneg (by omega),Int.tmod_eq_emod_of_nonneg (by omega)]
 rw [aF (n:=(u+(y+z) % 1000000000*1000000000) / 1000000000000000000) (by omega) (by omega),aF (n:=x+(y+z) / 1000000000) (by omega) (by omega),aF (by omega) (by omega)]
 omega
theorem ajk (x:Int):bf x (0- x)=if x<0 then-x else x:=by unfold bf;split<;>split<;>omega
theorem acs {h l:Int} (hl:0<=l/\ l<1000000000000000000) (hh:0<=h/\ h<=1000000000000000000):afu (h,l)=((-(h*1000000000000000000+l) / 1000000000000000000,-(h*1000000000000000000+l) % 1000000000000000000),0):=by
 have w: ∀h l:Int,0<=l/\ l<1000000000000000000-> -4000000000000000000<=h/\ h<=4000000000000000000->aco (h,l)=true:=fun h l h1 h2=>by
  unfold aco
  simp only [ge_iff_le,h1.1,h1.2,h2.1,h2.2,if_true,decide_true]
 unfold afu
 rw [w h l hl (by omega)]
 dsimp only [aq]
 rw [if_neg (by decide)]
 by_cases h0:l=0
 ·subst h0
  rw [if_pos (by rfl),aF (by omega) (by omega)]
  congr 1
  exact Prod.ext (by dsimp only;omega) (by dsimp only;omega)
 ·rw [if_neg (by simpa using h0),aF (n:=0- h) (by omega) (by omega),aF (n:=0- h- 1) (by omega) (by omega),aF (n:=1000000000000000000- l) (by omega) (by omega)]
  unfold Tb
  rw [w _ _ (by omega) (by omega)]
  dsimp only [aq]
  rw [if_neg (by decide)]
  congr 1
  exact Prod.ext (by dsimp only;omega) (by dsimp only;omega)
theorem QU {a b:Int} (ha: -1000000000000000000<=a/\ a<=1000000000000000000) (hb: -1000000000000000000<=b/\ b<=1000000000000000000):
  S9 (a,b)=((a*b / 1000000000000000000,a*b % 1000000000000000000),0):=by
 unfold S9
 have h1: ¬bf a b>1000000000000000000:=by unfold bf;split<;>omega
 have h2: ¬bt a b< -1000000000000000000:=by unfold bt;split<;>omega
 dsimp only
 rw [if_neg h1,if_neg h2]
 unfold Es
 dsimp only [aq]
 rw [aF (n:=0- a) (by omega) (by omega),aF (n:=0- b) (by omega) (by omega),ajk,ajk]
 obtain ⟨e1,e2⟩:=akh (A:=if a<0 then-a else a) (B:=if b<0 then-b else b) (by split<;>omega) (by split<;>omega) (by split<;>omega) (by split<;>omega)
 have g1: ∀x y:Int,muH x y=av (av (av (av (x.tdiv 1000000000)*av (y.tdiv 1000000000))+av ((av (av (av (x.tdiv 1000000000)*y.tmod 1000000000)+av (x.tmod 1000000000*av (y.tdiv 1000000000)))).tdiv 1000000000))+av ((av (av (x.tmod 1000000000*y.tmod 1000000000)+av ((av (av (av (x.tdiv 1000000000)*y.tmod 1000000000)+av (x.tmod 1000000000*av (y.tdiv 1000000000)))).tmod 1000000000*1000000000))).tdiv 1000000000000000000)):=fun _ _=>rfl
 have g2: ∀x y:Int,muL x y=(av (av (x.tmod 1000000000*y.tmod 1000000000)+av ((av (av (av (x.tdiv 1000000000)*y.tmod 1000000000)+av (x.tmod 1000000000*av (y.tdiv 1000000000)))).tmod 1000000000*1000000000))).tmod 1000000000000000000:=fun _ _=>rfl
 rw [<- g1,<- g2,e1,e2]
 by_cases hs:decide (a<0)=decide (b<0)
 ·rw [if_neg (by rw [hs];simp)]
  have hm:(if a<0 then-a else a)*(if b<0 then-b else b)=a*b:=by
   by_cases h:a<0
   ·have:b<0:=by simpa [h] using hs
    simp only [h,this,if_true,Int.neg_mul_neg]
   ·have: ¬b<0:=by simpa [h] using hs
    simp only [h,this,if_false]
  rw [hm]
 ·rw [if_pos (by simpa using hs)]
  have hm:(if a<0 then-a else a)*(if b<0 then-b else b)= -(a*b):=by
   by_cases h:a<0
   ·have: ¬b<0:=by simpa [h] using hs
    simp only [h,this,if_true,if_false,Int.neg_mul]
   ·have:b<0:=by simpa [h] using hs
    simp only [h,this,if_true,if_false,Int.mul_neg]
  have hm2:=w7 (a:=a) (b:=b) (A:=1000000000000000000) (B:=1000000000000000000) (by omega) (by omega) (by omega) (by omega)
  have hn:0<= -(a*b):=by rw [<- hm];exact Int.mul_nonneg (by split<;>omega) (by split<;>omega)
  rw [hm]
  generalize a*b=x at*
  rw [acs (by omega) (by omega)]
  congr 1
  exact Prod.ext (by dsimp only;omega) (by dsimp only;omega)
def tC (a b:Int):Int:=if a<b then-1 else if a>b then 1 else 0
theorem acm (x y:Int):H6 ((x / 1000000000000000000,x % 1000000000000000000),y / 1000000000000000000,y % 1000000000000000000)/\ afq ((x / 1000000000000000000,x % 1000000000000000000),y / 1000000000000000000,y % 1000000000000000000)=tC x y:=by
 refine ⟨fun _=>(vX _ _).1,?_⟩
 unfold afq tC
 dsimp only [aq]
 rw [rL,rL,(vX _ _).2]
 split
 ·rename_i h
  simp only [Bool.and_true,Bool.and_eq_true,beq_iff_eq] at h
  rw [if_neg (by omega),if_neg (by omega)]
 ·split<;>split<;>(try split)<;>(try split)<;>(try split)<;>omega
abbrev Q7 (a:Int×Int):Prop:=(1<=a.2/\ a.2<=1000000000000000000)/\ -1000000000000000000<=a.1/\ a.1<=1000000000000000000
theorem Fk {a b:Int×Int} (ha:Q7 a) (hb:Q7 b):oq (a,b)/\ Ir (a,b)=tC (a.1*b.2) (b.1*a.2):=by
 have hr: ∀a:Int×Int,Q7 a->x5 a=true:=fun a ha=>by
  unfold x5
  rw [if_pos (by omega),if_pos (by omega),if_pos (by omega)]
  exact decide_eq_true (by omega)
 have e1:=QU (a:=a.1) (b:=b.2) (by omega) (by omega)
 have e2:=QU (a:=b.1) (b:=a.2) (by omega) (by omega)
 obtain ⟨p,q⟩:=acm (a.1*b.2) (b.1*a.2)
 unfold oq Ir L1 fto
 dsimp only [aq,aC]
 rw [hr a ha,hr b hb,e1,e2]
 dsimp only
 refine ⟨⟨fun _=>⟨fun _=>p,fun h=>absurd rfl h⟩,fun h=>absurd rfl h⟩,?_⟩
 rw [if_pos rfl,if_pos rfl,q]
structure Btw (n d:Int) (l m:Int×Int):Prop where
 fl:Q7 l
 fm:Q7 m
 dl:l.1*d<=n*l.2
 dm:n*m.2<=m.1*d
abbrev SmF (f:Int):Prop:= -65536<=f/\ f<=65536
theorem Uk {f t b:Int} {l m:Int×Int} (hf:SmF f) (ht:SmF t) (hb:1<=b/\ b<=65536) (hl:Q7 l) (hm:Q7 m):
  u6 (f,t,b,l,m)/\ ∃l' m',aaP (f,t,b,l,m)=(false,false,false,false,l',m')/\ Q7 l'/\ Q7 m'/\ ∀n d,Btw n d l m->f*d<=n*b->n*b<=t*d->Btw n d l' m':=by
 obtain ⟨p1,e1⟩:=Fk (a:=(f,b)) (b:=l) ⟨⟨by dsimp only;omega,by dsimp only;omega⟩,by dsimp only;omega,by dsimp only;omega⟩ hl
 obtain ⟨p2,e2⟩:=Fk (a:=(t,b)) (b:=m) ⟨⟨by dsimp only;omega,by dsimp only;omega⟩,by dsimp only;omega,by dsimp only;omega⟩ hm
 have F1:Q7 (f,b):=⟨⟨by dsimp only;omega,by dsimp only;omega⟩,by dsimp only;omega,by dsimp only;omega⟩
 have F2:Q7 (t,b):=⟨⟨by dsimp only;omega,by dsimp only;omega⟩,by dsimp only;omega,by dsimp only;omega⟩
 unfold u6 aaP aq aC
 dsimp only
 refine ⟨⟨p1,fun _=>p2,fun _=>p2⟩,?_⟩
 split
 ·split
  ·exact ⟨_,_,rfl,F1,F2,fun n d h h1 h2=>⟨F1,F2,h1,h2⟩⟩
  ·exact ⟨_,_,rfl,F1,hm,fun n d h h1 h2=>⟨F1,hm,h1,h.dm⟩⟩
 ·split
  ·exact ⟨_,_,rfl,hl,F2,fun n d h h1 h2=>⟨hl,F2,h.dl,h2⟩⟩
  ·exact ⟨_,_,rfl,hl,hm,fun n d h h1 h2=>h⟩
def g3 (p:P3) (i:Nat):Int:=List.getD [p.1,p.2.1,p.2.2] (0+i*1) 0
theorem TN {p:P3} (h:fF p) {i:Nat} (hi:i<3): -16384<=g3 p i/\ g3 p i<=16384:=by
 match i,hi with
 |0,_=>exact h.1
 |1,_=>exact h.2.1
 |2,_=>exact h.2.2
def InB (a c:P3) (b:B3) (n d:Int):Prop:= ∀i:Nat,i<3->g3 b.1 i*d<=g3 a i*d+n*(g3 c i- g3 a i)/\ g3 a i*d+n*(g3 c i- g3 a i)<=g3 b.2 i*d
theorem Sh (x:I3×I9) {a c:P3} {b:B3} (ha:fF a) (hc:fF c) (hl:fF b.1) (hh:fF b.2):
  TR (dQ x) (lR x) (0,1,1,1,a.1,a.2.1,a.2.2,c.1,c.2.1,c.2.2,b.1.1,b.1.2.1,b.1.2.2,b.2.1,b.2.2.1,b.2.2.2,0) fun r=>
   (r= .inl ()/\ ∀n d,0<d->0<=n->n<=d-> ¬InB a c b n d)\/ ∃l m:Int×Int,r= .inr (l.1,l.2,m)/\ Q7 l/\ Q7 m/\ ∀n d,0<d->0<=n->n<=d->InB a c b n d->Btw n d l m:=by
 refine eH 3 (fun i s=> ∃l m:Int×Int,s=(l.1,l.2,m.1,m.2,a.1,a.2.1,a.2.2,c.1,c.2.1,c.2.2,b.1.1,b.1.2.1,b.1.2.2,b.2.1,b.2.2.1,b.2.2.2,(i:Int))/\ Q7 l/\ Q7 m/\ ∀n d,0<d->0<=n->n<=d->InB a c b n d->Btw n d l m) _ (fun i s hi hJ=> ?_) (fun s hJ=> ?_) ⟨(0,1),(1,1),rfl,⟨⟨by decide,by decide⟩,by decide,by decide⟩,⟨⟨by decide,by decide⟩,by decide,by decide⟩,fun n d h0 h1 h2 _=>⟨⟨⟨by decide,by decide⟩,by decide,by decide⟩,⟨⟨by decide,by decide⟩,by decide,by decide⟩,by dsimp only;omega,by dsimp only;omega⟩⟩
 ·obtain ⟨l,m,rfl,Fl,Fm,hB⟩:=hJ
  unfold lR dQ aq
  dsimp only
  simp only [Int.toNat_natCast]
  have ea:List.getD [a.1,a.2.1,a.2.2] (0+i*1) 0=g3 a i:=rfl
  have ec:List.getD [c.1,c.2.1,c.2.2] (0+i*1) 0=g3 c i:=rfl
  have el:List.getD [b.1.1,b.1.2.1,b.1.2.2] (0+i*1) 0=g3 b.1 i:=rfl
  have eh:List.getD [b.2.1,b.2.2.1,b.2.2.2] (0+i*1) 0=g3 b.2 i:=rfl
  simp only [ea,ec,el,eh]
  have sa:=TN ha hi
  have sc:=TN hc hi
  have sl:=TN hl hi
  have sh:=TN hh hi
  have hin: ∀n d,InB a c b n d->g3 b.1 i*d<=g3 a i*d+n*(g3 c i- g3 a i)/\ g3 a i*d+n*(g3 c i- g3 a i)<=g3 b.2 i*d:=fun n d h=>h i hi
  generalize g3 a i=pa at*
  generalize g3 c i=pc at*
  generalize g3 b.1 i=pl at*
  generalize g3 b.2 i=ph at*
  have hi2:((i:Int)<3):=by omega
  have hw:av ((i:Int)+1)=((i+1:Nat):Int):=by rw [aF (by omega) (by omega)];rfl
  have w1:av (pc- pa)=pc- pa:=aF (by omega) (by omega)
  have w2:av (pl- pa)=pl- pa:=aF (by omega) (by omega)
  have w3:av (ph- pa)=ph- pa:=aF (by omega) (by omega)
  have w4:av (pa- ph)=pa- ph:=aF (by omega) (by omega)
  have w5:av (pa- pl)=pa- pl:=aF (by omega) (by omega)
  have w6:av (0- (pc- pa))=0- (pc- pa):=aF (by omega) (by omega)
  simp only [w1,w2,w3,w4,w5,w6,hw,if_pos hi2]
  by_cases hd:pc- pa>0
  ·obtain ⟨n1,l',m',n2,n3,n4,n5⟩:=Uk (f:=pl- pa) (t:=ph- pa) (b:=pc- pa) (by omega) (by omega) (by omega) Fl Fm
   refine ⟨fun _=>⟨⟨by omega,by omega⟩,by omega,⟨by omega,by omega⟩,by omega,fun _=>⟨⟨by omega,by omega⟩,by omega,⟨by omega,by omega⟩,by omega,⟨by omega,by omega⟩,by omega,⟨by omega,by omega⟩,by omega,n1⟩,fun q=>absurd hd q⟩,.inl ⟨_,by rw [if_pos hd],l',m',?_,n3,n4,fun n d h0 h1 h2 h3=>n5 n d (hB n d h0 h1 h2 h3) ?_ ?_⟩⟩
   ·rw [n2]
   ·have:=(hin n d h3).1;grind
   ·have:=(hin n d h3).2;grind
  ·rw [if_neg hd]
   by_cases DZ:pc- pa<0
   ·obtain ⟨n1,l',m',n2,n3,n4,n5⟩:=Uk (f:=pa- ph) (t:=pa- pl) (b:=0- (pc- pa)) (by omega) (by omega) (by omega) Fl Fm
    refine ⟨fun _=>⟨⟨by omega,by omega⟩,by omega,⟨by omega,by omega⟩,by omega,fun q=>absurd q hd,fun _=>⟨fun _=>⟨⟨by omega,by omega⟩,by omega,⟨by omega,by omega⟩,by omega,⟨by omega,by omega⟩,by omega,⟨by omega,by omega⟩,by omega,n1⟩,fun q=>absurd DZ q⟩⟩,.inl ⟨_,by rw [if_pos DZ],l',m',?_,n3,n4,fun n d h0 h1 h2 h3=>n5 n d (hB n d h0 h1 h2 h3) ?_ ?_⟩⟩
    ·rw [n2]
    ·have:=(hin n d h3).2;grind
    ·have:=(hin n d h3).1;grind
   ·have he:pc- pa=0:=by omega
    rw [if_neg DZ]
    have pz: ∀(A B:Prop),A->B->((i:Int)<3->((0:Int)<=(i:Int)/\ (i:Int)<3)/\ 0+i*1+1<=3/\ ((0:Int)<=(i:Int)/\ (i:Int)<3)/\ 0+i*1+1<=3/\ A/\ B):=fun A B x y _=>⟨⟨by omega,by omega⟩,by omega,⟨by omega,by omega⟩,by omega,x,y⟩
    refine ⟨pz _ _ (fun q=>absurd q hd) fun _=>⟨fun q=>absurd q DZ,fun _=>⟨⟨by omega,by omega⟩,by omega,⟨by omega,by omega⟩,by omega,fun _=>⟨⟨by omega,by omega⟩,by omega,⟨by omega,by omega⟩,by omega⟩⟩⟩,?_⟩
    have hno: ∀n d:Int,n*(pc- pa)=0:=fun n d=>by rw [he,Int.mul_zero]
    by_cases h1:pa<pl
    ·refine .inr ⟨_,by rw [if_pos h1],.inl ⟨rfl,fun n d h0 _ _ h3=> ?_⟩⟩
     have q:=(hin n d h3).1
     rw [hno n d,Int.add_zero] at q
     have:=Int.mul_lt_mul_of_pos_right h1 h0
     omega
    ·rw [if_neg h1]
     by_cases h2:pa>ph
     ·refine .inr ⟨_,by rw [if_pos h2],.inl ⟨rfl,fun n d h0 _ _ h3=> ?_⟩⟩
      have q:=(hin n d h3).2
      rw [hno n d,Int.add_zero] at q
      have:=Int.mul_lt_mul_of_pos_right h2 h0
      omega
     ·exact .inl ⟨_,by rw [if_neg h2],l,m,rfl,Fl,Fm,hB⟩
 ·obtain ⟨l,m,rfl,Fl,Fm,hB⟩:=hJ
  refine ⟨?_,.inr (l.1,l.2,m),?_,.inr ⟨l,m,rfl,Fl,Fm,hB⟩⟩
  ·unfold lR
   intro q
   exact absurd (show (3:Int)<3 from q) (by decide)
  ·unfold dQ
   dsimp only
   rw [if_neg (by decide)]
theorem WX {a c:P3} {b:B3} (ha:fF a) (hc:fF c) (hl:fF b.1) (hh:fF b.2) (hle:Nm b.1 b.2):
  lz (a,c,b)/\ ((∃n d,0<d/\ 0<=n/\ n<=d/\ InB a c b n d)->(qu (a,c,b)).1=true):=by
 obtain ⟨s1,s2⟩:=fR [a,c] (by simp)
 have s3:dR [a,c]=true:=by rw [s2];simp [ha,hc]
 obtain ⟨t1,t2⟩:=yq b
 have t3:=t2.2 ⟨⟨hl,hh⟩,hle⟩
 obtain ⟨k1,hP⟩:=Sh (a,c,b) ha hc hl hh
 unfold lz qu aC aq
 dsimp only
 rw [s3,t3]
 simp only [parts]
 generalize run (dQ (a,c,b)) _=r at hP
 rcases hP with ⟨rfl,h⟩|⟨l,m,rfl,Fl,Fm,h⟩
 ·refine ⟨⟨s1,fun _=>⟨t1,fun _=>⟨k1,trivial⟩⟩⟩,fun ⟨n,d,h0,h1,h2,h3⟩=>absurd h3 (h n d h0 h1 h2)⟩
 ·obtain ⟨f1,f2⟩:=Fk Fl Fm
  refine ⟨⟨s1,fun _=>⟨t1,fun _=>⟨k1,f1⟩⟩⟩,fun ⟨n,d,h0,h1,h2,h3⟩=> ?_⟩
  have hb:=h n d h0 h1 h2 h3
  show (if (!true)=true then (false,(5:Int)) else if (!true)=true then (false,1) else (decide (Ir ((l.1,l.2),m)<=0),0)).1=true
  rw [if_neg (by decide),if_neg (by decide)]
  refine decide_eq_true ?_
  have e:Ir ((l.1,l.2),m)=tC (l.1*m.2) (m.1*l.2):=f2
  rw [e]
  have g1:=Int.mul_le_mul_of_nonneg_right hb.dl (show 0<=m.2 by have:=Fm.1;omega)
  have g2:=Int.mul_le_mul_of_nonneg_right hb.dm (show 0<=l.2 by have:=Fl.1;omega)
  have g3:(l.1*m.2)*d<=(m.1*l.2)*d:=by grind
  have g4:=Int.le_of_mul_le_mul_right g3 h0
  unfold tC
  split
  ·decide
  ·split<;>omega
end Go.Proofs.YtngdehlpoomaiaaGreat
