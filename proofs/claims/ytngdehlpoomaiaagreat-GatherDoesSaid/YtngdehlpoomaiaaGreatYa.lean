/- Plain laws: wide products, fractions; boxes that a way meets. -/
import Derived.Test.YtngdehlpoomaiaaGreatSb
import Derived.Test.YtngdehlpoomaiaaGreatVf
noncomputable section
set_option linter.unusedSectionVars false
set_option linter.unusedVariables false
set_option linter.unusedSimpArgs false
namespace Go.Proofs.YtngdehlpoomaiaaGreat
open Go Go.Ev Go.Proofs
def muH (A B:Int):Int:=au (au (au (au (A.tdiv 1000000000)*au (B.tdiv 1000000000))+au ((au (au (au (A.tdiv 1000000000)*B.tmod 1000000000)+au (A.tmod 1000000000*au (B.tdiv 1000000000)))).tdiv 1000000000))+au ((au (au (A.tmod 1000000000*B.tmod 1000000000)+au ((au (au (au (A.tdiv 1000000000)*B.tmod 1000000000)+au (A.tmod 1000000000*au (B.tdiv 1000000000)))).tmod 1000000000*1000000000))).tdiv 1000000000000000000))
def muL (A B:Int):Int:=(au (au (A.tmod 1000000000*B.tmod 1000000000)+au ((au (au (au (A.tdiv 1000000000)*B.tmod 1000000000)+au (A.tmod 1000000000*au (B.tdiv 1000000000)))).tmod 1000000000*1000000000))).tmod 1000000000000000000
theorem asL {A B:Int} (ha:0<=A) (ha2:A<=1000000000000000000) (hb:0<=B) (dR:B<=1000000000000000000):muH A B=A*B / 1000000000000000000/\ muL A B=A*B % 1000000000000000000:=by
 unfold muH muL
 rw [Int.tdiv_eq_ediv_of_nonneg ha,Int.tmod_eq_emod_of_nonneg ha,Int.tdiv_eq_ediv_of_nonneg hb,Int.tmod_eq_emod_of_nonneg hb]
 rw [ax (n:=A / 1000000000) (by omega) (by omega),ax (n:=B / 1000000000) (by omega) (by omega)]
 have e:A*B=(A / 1000000000*1000000000+A % 1000000000)*(B / 1000000000*1000000000+B % 1000000000):=by
  rw [Int.ediv_mul_add_emod,Int.ediv_mul_add_emod]
 have h1:0<=A / 1000000000/\ A / 1000000000<=1000000000:=by omega
 have h2:0<=A % 1000000000/\ A % 1000000000<=999999999:=by omega
 have h3:0<=B / 1000000000/\ B / 1000000000<=1000000000:=by omega
 have h4:0<=B % 1000000000/\ B % 1000000000<=999999999:=by omega
 revert e
 generalize A / 1000000000=p at h1 ⊢
 generalize A % 1000000000=q at h2 ⊢
 generalize B / 1000000000=r at h3 ⊢
 generalize B % 1000000000=s at h4 ⊢
 intro e
 rw [e]
 have b1:=qJ (a:=p) (b:=r) (A:=1000000000) (B:=1000000000) (by omega) (by omega) (by omega) (by omega)
 have b2:=qJ (a:=p) (b:=s) (A:=1000000000) (B:=999999999) (by omega) (by omega) (by omega) (by omega)
 have b3:=qJ (a:=q) (b:=r) (A:=999999999) (B:=1000000000) (by omega) (by omega) (by omega) (by omega)
 have b4:=qJ (a:=q) (b:=s) (A:=999999999) (B:=999999999) (by omega) (by omega) (by omega) (by omega)
 have c1:=Int.mul_nonneg h1.1 h3.1
 have c2:=Int.mul_nonneg h1.1 h4.1
 have c3:=Int.mul_nonneg h2.1 h3.1
 have c4:=Int.mul_nonneg h2.1 h4.1
 have e2:(p*1000000000+q)*(r*1000000000+s)=p*r*1000000000000000000+(p*s+q*r)*1000000000+q*s:=by grind
 rw [e2]
 generalize p*r=x at*
 generalize p*s=y at*
 generalize q*r=z at*
 generalize q*s=u at*
 rw [ax (n:=x) (by omega) (by omega),ax (n:=y) (by omega) (by omega),ax (n:=z) (by omega) (by omega),ax (n:=u) (by omega) (by omega),ax (n:=y+z) (by omega) (by omega)]
 rw [Int.tdiv_eq_ediv_of_nonneg (a:=y+z) (by omega),Int.tmod_eq_emod_of_nonneg (a:=y+z) (by omega)]
 rw [ax (n:=(y+z) / 1000000000) (by omega) (by omega),ax (n:=(y+z) % 1000000000*1000000000) (by omega) (by omega),ax (n:=u+(y+z) % 1000000000*1000000000) (by omega) (by omega)]
 rw [Int.tdiv_eq_ediv_of_nonneg (by omega),Int.tmod_eq_emod_of_nonneg (by omega)]
 rw [ax (n:=(u+(y+z) % 1000000000*1000000000) / 1000000000000000000) (by omega) (by omega),ax (n:=x+(y+z) / 1000000000) (by omega) (by omega),ax (by omega) (by omega)]
 omega
theorem arN (x:Int):bw x (0- x)=if x<0 then-x else x:=by unfold bw;split<;>split<;>omega
theorem ak0 {h l:Int} (hl:0<=l/\ l<1000000000000000000) (hh:0<=h/\ h<=1000000000000000000):aqF (h,l)=((-(h*1000000000000000000+l) / 1000000000000000000,-(h*1000000000000000000+l) % 1000000000000000000),0):=by
 have w: ∀h l:Int,0<=l/\ l<1000000000000000000-> -4000000000000000000<=h/\ h<=4000000000000000000->akW (h,l)=true:=fun h l h1 h2=>by
  unfold akW
  simp only [ge_iff_le,h1.1,h1.2,h2.1,h2.2,if_true,decide_true]
 unfold aqF
 rw [w h l hl (by omega)]
 dsimp only [ak]
 rw [if_neg (by decide)]
 by_cases h0:l=0
 ·subst h0
  rw [if_pos (by rfl),ax (by omega) (by omega)]
  congr 1
  exact Prod.ext (by dsimp only;omega) (by dsimp only;omega)
 ·rw [if_neg (by simpa using h0),ax (n:=0- h) (by omega) (by omega),ax (n:=0- h- 1) (by omega) (by omega),ax (n:=1000000000000000000- l) (by omega) (by omega)]
  unfold abu
  rw [w _ _ (by omega) (by omega)]
  dsimp only [ak]
  rw [if_neg (by decide)]
  congr 1
  exact Prod.ext (by dsimp only;omega) (by dsimp only;omega)
theorem Yz {a b:Int} (ha: -1000000000000000000<=a/\ a<=1000000000000000000) (hb: -1000000000000000000<=b/\ b<=1000000000000000000):
  abq (a,b)=((a*b / 1000000000000000000,a*b % 1000000000000000000),0):=by
 dsimp only [abq,abr,Tr.val,Tr.pre];(try dsimp only [az,ak])
 have h1: ¬bw a b>1000000000000000000:=by unfold bw;split<;>omega
 have h2: ¬bB a b< -1000000000000000000:=by unfold bB;split<;>omega
 try dsimp only
 rw [if_neg h1,if_neg h2]
 unfold ady
 dsimp only [ak]
 rw [ax (n:=0- a) (by omega) (by omega),ax (n:=0- b) (by omega) (by omega),arN,arN]
 obtain ⟨e1,e2⟩:=asL (A:=if a<0 then-a else a) (B:=if b<0 then-b else b) (by split<;>omega) (by split<;>omega) (by split<;>omega) (by split<;>omega)
 have g1: ∀x y:Int,muH x y=au (au (au (au (x.tdiv 1000000000)*au (y.tdiv 1000000000))+au ((au (au (au (x.tdiv 1000000000)*y.tmod 1000000000)+au (x.tmod 1000000000*au (y.tdiv 1000000000)))).tdiv 1000000000))+au ((au (au (x.tmod 1000000000*y.tmod 1000000000)+au ((au (au (au (x.tdiv 1000000000)*y.tmod 1000000000)+au (x.tmod 1000000000*au (y.tdiv 1000000000)))).tmod 1000000000*1000000000))).tdiv 1000000000000000000)):=fun _ _=>rfl
 have g2: ∀x y:Int,muL x y=(au (au (x.tmod 1000000000*y.tmod 1000000000)+au ((au (au (au (x.tdiv 1000000000)*y.tmod 1000000000)+au (x.tmod 1000000000*au (y.tdiv 1000000000)))).tmod 1000000000*1000000000))).tmod 1000000000000000000:=fun _ _=>rfl
 rw [<- g1,<- g2,e1,e2]
 by_cases hs:decide (a<0)=decide (b<0)
 ·rw [if_neg (by rw [hs];simp)]
  have hm:(if a<0 then-a else a)*(if b<0 then-b else b)=a*b:=by
   by_cases h:a<0
   ·have:b<0:=by simpa [h] using hs
    simp only [h,this,if_true,Int.neg_mul_neg]
   ·have: ¬b<0:=by simpa [h] using hs
    simp only [h,this,if_false]
  rw [hm]
 ·rw [if_pos (by simpa using hs)]
  have hm:(if a<0 then-a else a)*(if b<0 then-b else b)= -(a*b):=by
   by_cases h:a<0
   ·have: ¬b<0:=by simpa [h] using hs
    simp only [h,this,if_true,if_false,Int.neg_mul]
   ·have:b<0:=by simpa [h] using hs
    simp only [h,this,if_true,if_false,Int.mul_neg]
  have hm2:=qJ (a:=a) (b:=b) (A:=1000000000000000000) (B:=1000000000000000000) (by omega) (by omega) (by omega) (by omega)
  have hn:0<= -(a*b):=by rw [<- hm];exact Int.mul_nonneg (by split<;>omega) (by split<;>omega)
  rw [hm]
  generalize a*b=x at*
  rw [ak0 (by omega) (by omega)]
  congr 1
  exact Prod.ext (by (try dsimp only);omega) (by (try dsimp only);omega)
def wV (a b:Int):Int:=if a<b then-1 else if a>b then 1 else 0
theorem akU (x y:Int):NZ ((x / 1000000000000000000,x % 1000000000000000000),y / 1000000000000000000,y % 1000000000000000000)/\ anS ((x / 1000000000000000000,x % 1000000000000000000),y / 1000000000000000000,y % 1000000000000000000)=wV x y:=by
 refine ⟨fun _=>(zK _ _).1,?_⟩
 unfold anS wV
 dsimp only [ak]
 rw [uZ,uZ,(zK _ _).2]
 split
 ·rename_i h
  simp only [Bool.and_true,Bool.and_eq_true,beq_iff_eq] at h
  rw [if_neg (by omega),if_neg (by omega)]
 ·split<;>split<;>(try split)<;>(try split)<;>(try split)<;>omega
abbrev YK (a:Int×Int):Prop:=(1<=a.2/\ a.2<=1000000000000000000)/\ -1000000000000000000<=a.1/\ a.1<=1000000000000000000
theorem Lb {a b:Int×Int} (ha:YK a) (hb:YK b):C9 (a,b)/\ aeb (a,b)=wV (a.1*b.2) (b.1*a.2):=by
 have hr: ∀a:Int×Int,YK a->B1 a=true:=fun a ha=>by
  unfold B1
  rw [if_pos (by omega),if_pos (by omega),if_pos (by omega)]
  exact decide_eq_true (by omega)
 have e1:=Yz (a:=a.1) (b:=b.2) (by omega) (by omega)
 have e2:=Yz (a:=b.1) (b:=a.2) (by omega) (by omega)
 obtain ⟨p,q⟩:=akU (a.1*b.2) (b.1*a.2)
 unfold C9 aeb SC fto
 dsimp only [ak,az]
 rw [hr a ha,hr b hb,e1,e2]
 dsimp only
 refine ⟨⟨fun _=>⟨fun _=>p,fun h=>absurd rfl h⟩,fun h=>absurd rfl h⟩,?_⟩
 rw [if_pos rfl,if_pos rfl,q]
structure Btw (n d:Int) (l m:Int×Int):Prop where
 fl:YK l
 fm:YK m
 dl:l.1*d<=n*l.2
 dm:n*m.2<=m.1*d
abbrev SmF (f:Int):Prop:= -65536<=f/\ f<=65536
theorem acB {f t b:Int} {l m:Int×Int} (hf:SmF f) (ht:SmF t) (hb:1<=b/\ b<=65536) (hl:YK l) (hm:YK m):
  L0 (f,t,b,l,m)/\ ∃l' m',aqh (f,t,b,l,m)=(false,false,false,false,l',m')/\ YK l'/\ YK m'/\ ∀n d,Btw n d l m->f*d<=n*b->n*b<=t*d->Btw n d l' m':=by
 obtain ⟨p1,e1⟩:=Lb (a:=(f,b)) (b:=l) ⟨⟨by (try dsimp only);omega,by (try dsimp only);omega⟩,by (try dsimp only);omega,by (try dsimp only);omega⟩ hl
 obtain ⟨p2,e2⟩:=Lb (a:=(t,b)) (b:=m) ⟨⟨by (try dsimp only);omega,by (try dsimp only);omega⟩,by (try dsimp only);omega,by (try dsimp only);omega⟩ hm
 have F1:YK (f,b):=⟨⟨by (try dsimp only);omega,by (try dsimp only);omega⟩,by (try dsimp only);omega,by (try dsimp only);omega⟩
 have F2:YK (t,b):=⟨⟨by (try dsimp only);omega,by (try dsimp only);omega⟩,by (try dsimp only);omega,by (try dsimp only);omega⟩
 dsimp only [L0,aqh,Tf,Tr.val,Tr.pre];(try dsimp only [az,ak])
 refine ⟨⟨p1,fun _=>p2,fun _=>p2⟩,?_⟩
 split
 ·split
  ·exact ⟨_,_,rfl,F1,F2,fun n d h h1 h2=>⟨F1,F2,h1,h2⟩⟩
  ·exact ⟨_,_,rfl,F1,hm,fun n d h h1 h2=>⟨F1,hm,h1,h.dm⟩⟩
 ·split
  ·exact ⟨_,_,rfl,hl,F2,fun n d h h1 h2=>⟨hl,F2,h.dl,h2⟩⟩
  ·exact ⟨_,_,rfl,hl,hm,fun n d h h1 h2=>h⟩
def g3 (p:P3) (i:Nat):Int:=List.getD [p.1,p.2.1,p.2.2] (0+i*1) 0
theorem ab5 {p:P3} (h:dB p) {i:Nat} (hi:i<3): -16384<=g3 p i/\ g3 p i<=16384:=by
 match i,hi with
 |0,_=>exact h.1
 |1,_=>exact h.2.1
 |2,_=>exact h.2.2
def InB (a c:P3) (b:B3) (n d:Int):Prop:= ∀i:Nat,i<3->g3 b.1 i*d<=g3 a i*d+n*(g3 c i- g3 a i)/\ g3 a i*d+n*(g3 c i- g3 a i)<=g3 b.2 i*d
theorem ZW (x:I3×I9) {a c:P3} {b:B3} (ha:dB a) (hc:dB c) (hl:dB b.1) (hh:dB b.2):
  TR (eI x) (nE x) (0,1,1,1,a.1,a.2.1,a.2.2,c.1,c.2.1,c.2.2,b.1.1,b.1.2.1,b.1.2.2,b.2.1,b.2.2.1,b.2.2.2,0) fun r=>
   (r= .inl ()/\ ∀n d,0<d->0<=n->n<=d-> ¬InB a c b n d)\/ ∃l m:Int×Int,r= .inr (l.1,l.2,m)/\ YK l/\ YK m/\ ∀n d,0<d->0<=n->n<=d->InB a c b n d->Btw n d l m:=by
 refine cu 3 (fun i s=> ∃l m:Int×Int,s=(l.1,l.2,m.1,m.2,a.1,a.2.1,a.2.2,c.1,c.2.1,c.2.2,b.1.1,b.1.2.1,b.1.2.2,b.2.1,b.2.2.1,b.2.2.2,(i:Int))/\ YK l/\ YK m/\ ∀n d,0<d->0<=n->n<=d->InB a c b n d->Btw n d l m) _ (fun i s hi hJ=> ?_) (fun s hJ=> ?_) ⟨(0,1),(1,1),rfl,⟨⟨by decide,by decide⟩,by decide,by decide⟩,⟨⟨by decide,by decide⟩,by decide,by decide⟩,fun n d h0 h1 h2 _=>⟨⟨⟨by decide,by decide⟩,by decide,by decide⟩,⟨⟨by decide,by decide⟩,by decide,by decide⟩,by (try dsimp only);omega,by (try dsimp only);omega⟩⟩
 ·obtain ⟨l,m,rfl,Fl,Fm,hB⟩:=hJ
  dsimp only [nE,eI,jy,Tr.val,Tr.pre];(try dsimp only [az,ak])
  simp only [Int.toNat_natCast]
  have ea:List.getD [a.1,a.2.1,a.2.2] (0+i*1) 0=g3 a i:=rfl
  have ec:List.getD [c.1,c.2.1,c.2.2] (0+i*1) 0=g3 c i:=rfl
  have el:List.getD [b.1.1,b.1.2.1,b.1.2.2] (0+i*1) 0=g3 b.1 i:=rfl
  have eh:List.getD [b.2.1,b.2.2.1,b.2.2.2] (0+i*1) 0=g3 b.2 i:=rfl
  simp only [ea,ec,el,eh]
  have sa:=ab5 ha hi
  have sc:=ab5 hc hi
  have sl:=ab5 hl hi
  have sh:=ab5 hh hi
  have hin: ∀n d,InB a c b n d->g3 b.1 i*d<=g3 a i*d+n*(g3 c i- g3 a i)/\ g3 a i*d+n*(g3 c i- g3 a i)<=g3 b.2 i*d:=fun n d h=>h i hi
  generalize g3 a i=pa at*
  generalize g3 c i=pc at*
  generalize g3 b.1 i=pl at*
  generalize g3 b.2 i=ph at*
  have hi2:((i:Int)<3):=by omega
  have hw:au ((i:Int)+1)=((i+1:Nat):Int):=by rw [ax (by omega) (by omega)];rfl
  have w1:au (pc- pa)=pc- pa:=ax (by omega) (by omega)
  have w2:au (pl- pa)=pl- pa:=ax (by omega) (by omega)
  have w3:au (ph- pa)=ph- pa:=ax (by omega) (by omega)
  have w4:au (pa- ph)=pa- ph:=ax (by omega) (by omega)
  have w5:au (pa- pl)=pa- pl:=ax (by omega) (by omega)
  have w6:au (0- (pc- pa))=0- (pc- pa):=ax (by omega) (by omega)
  simp only [w1,w2,w3,w4,w5,w6,hw,if_pos hi2]
  by_cases hd:pc- pa>0
  ·obtain ⟨n1,l',m',n2,n3,n4,n5⟩:=acB (f:=pl- pa) (t:=ph- pa) (b:=pc- pa) (by omega) (by omega) (by omega) Fl Fm
   refine ⟨fun _=>⟨⟨by omega,by omega⟩,by omega,⟨by omega,by omega⟩,by omega,fun _=>⟨⟨by omega,by omega⟩,by omega,⟨by omega,by omega⟩,by omega,⟨by omega,by omega⟩,by omega,⟨by omega,by omega⟩,by omega,n1⟩,fun q=>absurd hd q⟩,.inl ⟨_,by rw [if_pos hd],l',m',?_,n3,n4,fun n d h0 h1 h2 h3=>n5 n d (hB n d h0 h1 h2 h3) ?_ ?_⟩⟩
   ·rw [n2]
   ·have:=(hin n d h3).1;grind
   ·have:=(hin n d h3).2;grind
  ·rw [if_neg hd]
   by_cases JJ:pc- pa<0
   ·obtain ⟨n1,l',m',n2,n3,n4,n5⟩:=acB (f:=pa- ph) (t:=pa- pl) (b:=0- (pc- pa)) (by omega) (by omega) (by omega) Fl Fm
    refine ⟨fun _=>⟨⟨by omega,by omega⟩,by omega,⟨by omega,by omega⟩,by omega,fun q=>absurd q hd,fun _=>⟨fun _=>⟨⟨by omega,by omega⟩,by omega,⟨by omega,by omega⟩,by omega,⟨by omega,by omega⟩,by omega,⟨by omega,by omega⟩,by omega,n1⟩,fun q=>absurd JJ q⟩⟩,.inl ⟨_,by rw [if_pos JJ],l',m',?_,n3,n4,fun n d h0 h1 h2 h3=>n5 n d (hB n d h0 h1 h2 h3) ?_ ?_⟩⟩
    ·rw [n2]
    ·have:=(hin n d h3).2;grind
    ·have:=(hin n d h3).1;grind
   ·have he:pc- pa=0:=by omega
    rw [if_neg JJ]
    have pz: ∀(A B:Prop),A->B->((i:Int)<3->((0:Int)<=(i:Int)/\ (i:Int)<3)/\ 0+i*1+1<=3/\ ((0:Int)<=(i:Int)/\ (i:Int)<3)/\ 0+i*1+1<=3/\ A/\ B):=fun A B x y _=>⟨⟨by omega,by omega⟩,by omega,⟨by omega,by omega⟩,by omega,x,y⟩
    refine ⟨pz _ _ (fun q=>absurd q hd) fun _=>⟨fun q=>absurd q JJ,fun _=>⟨⟨by omega,by omega⟩,by omega,⟨by omega,by omega⟩,by omega,fun _=>⟨⟨by omega,by omega⟩,by omega,⟨by omega,by omega⟩,by omega⟩⟩⟩,?_⟩
    have hno: ∀n d:Int,n*(pc- pa)=0:=fun n d=>by rw [he,Int.mul_zero]
    by_cases h1:pa<pl
    ·refine .inr ⟨_,by rw [if_pos h1],.inl ⟨rfl,fun n d h0 _ _ h3=> ?_⟩⟩
     have q:=(hin n d h3).1
     rw [hno n d,Int.add_zero] at q
     have:=Int.mul_lt_mul_of_pos_right h1 h0
     omega
    ·rw [if_neg h1]
     by_cases h2:pa>ph
     ·refine .inr ⟨_,by rw [if_pos h2],.inl ⟨rfl,fun n d h0 _ _ h3=> ?_⟩⟩
      have q:=(hin n d h3).2
      rw [hno n d,Int.add_zero] at q
      have:=Int.mul_lt_mul_of_pos_right h2 h0
      omega
     ·exact .inl ⟨_,by rw [if_neg h2],l,m,rfl,Fl,Fm,hB⟩
 ·obtain ⟨l,m,rfl,Fl,Fm,hB⟩:=hJ
  refine ⟨?_,.inr (l.1,l.2,m),?_,.inr ⟨l,m,rfl,Fl,Fm,hB⟩⟩
  ·dsimp only [nE,jy,Tr.val,Tr.pre];(try dsimp only [az,ak])
   intro q
   exact absurd (show (3:Int)<3 from q) (by decide)
  ·dsimp only [eI,jy,Tr.val,Tr.pre];(try dsimp only [az,ak])
   rw [if_neg (by decide)]
theorem ae1 {a c:P3} {b:B3} (ha:dB a) (hc:dB c) (hl:dB b.1) (hh:dB b.2) (hle:UJ b.1 b.2):
  qH (a,c,b)/\ ((∃n d,0<d/\ 0<=n/\ n<=d/\ InB a c b n d)->(ye (a,c,b)).1=true):=by
 obtain ⟨s1,s2⟩:=gZ [a,c] (by simp)
 have s3:oP [a,c]=true:=by rw [s2];simp [ha,hc]
 obtain ⟨t1,t2⟩:=Cv b
 have t3:=t2.2 ⟨⟨hl,hh⟩,hle⟩
 obtain ⟨k1,hP⟩:=ZW (a,c,b) ha hc hl hh
 unfold qH ye az ak
 dsimp only
 rw [s3,t3]
 simp only [parts]
 generalize run (eI (a,c,b)) _=r at hP
 rcases hP with ⟨rfl,h⟩|⟨l,m,rfl,Fl,Fm,h⟩
 ·refine ⟨⟨s1,fun _=>⟨t1,fun _=>⟨k1,trivial⟩⟩⟩,fun ⟨n,d,h0,h1,h2,h3⟩=>absurd h3 (h n d h0 h1 h2)⟩
 ·obtain ⟨f1,f2⟩:=Lb Fl Fm
  refine ⟨⟨s1,fun _=>⟨t1,fun _=>⟨k1,f1⟩⟩⟩,fun ⟨n,d,h0,h1,h2,h3⟩=> ?_⟩
  have hb:=h n d h0 h1 h2 h3
  show (if (!true)=true then (false,(5:Int)) else if (!true)=true then (false,1) else (decide (aeb ((l.1,l.2),m)<=0),0)).1=true
  rw [if_neg (by decide),if_neg (by decide)]
  refine decide_eq_true ?_
  have e:aeb ((l.1,l.2),m)=wV (l.1*m.2) (m.1*l.2):=f2
  rw [e]
  have g1:=Int.mul_le_mul_of_nonneg_right hb.dl (show 0<=m.2 by have:=Fm.1;omega)
  have g2:=Int.mul_le_mul_of_nonneg_right hb.dm (show 0<=l.2 by have:=Fl.1;omega)
  have g3:(l.1*m.2)*d<=(m.1*l.2)*d:=by grind
  have g4:=Int.le_of_mul_le_mul_right g3 h0
  unfold wV
  split
  ·decide
  ·split<;>omega
end Go.Proofs.YtngdehlpoomaiaaGreat
